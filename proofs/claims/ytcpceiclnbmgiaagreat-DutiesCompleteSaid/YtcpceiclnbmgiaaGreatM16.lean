/- Walks of functions of the program and of the reference, and their plain laws, part 16. Conditions: the theorems' own. -/
import Derived.Test.YtcpceiclnbmgiaaGreatM15
import Derived.KernelRfl
set_option maxRecDepth 100000
set_option linter.unusedSimpArgs false
set_option linter.unusedVariables false
set_option maxHeartbeats 16000000
namespace Go.Proofs.YtcpceiclnbmgiaaGreat
open Go Go.Ev
theorem ajP{lh:iq b8}{sh:List b8}{k:Nat}{cs:List T}(F:iz sh k=⟨1,.cells cs 0 true⟩)(hc:cs.length=7)(D N:Nat):Ev.stV lh sh (.ptr .S k 1 0) (.agg (xL D N)) 7=some (lh,iH sh k ⟨1,.cells (xL D N) 0 true⟩):=by
 rw[nP (by rfl) F,kU,if_pos ⟨rfl,rfl,rfl,Nat.le_refl _,by omega⟩]
 refine congrArg (fun c=>some (lh,iH sh k ⟨1,.cells c 0 true⟩)) ?_
 match cs,hc with
 | [_,_,_,_,_,_,_],_=>rfl
theorem atL(n:Nat)(h:n≤1000)(sh:List b8):be pE 95 [.i .i64 (n:Int)] sh=some (.agg (xL sh.length n),sh++List.replicate 7 ⟨1,.cells (nF n fun _=>0) 0 false⟩):=by
 rw[ajM n h sh,show repl [T.i .i64 0] n=nF n fun _=>0 from ?_]
 ·rfl
 ·clear h
  induction n with
  |zero=>rfl
  |succ n ih=>
   rw[repl,ih]
   unfold nF
   rw[List.range_succ_eq_map,List.map_cons,List.map_map]
   rfl
theorem Ba{E:Env}{n:Nat}{a:dE}{m:Nat}(F:mj (j2 (.loop a))=m){fr:Fr}{lh:iq b8}{sh:List b8}{D:Option (Out×St)}(I:DC E n (.loop a) ⟨fr,lh,sh⟩=D){o:Out}{P:Fr→iq b8→List b8→Prop}(h:Lp E n a fr lh sh o P):
  ∃f l s,D=some (o,⟨f,l,s⟩)∧P f l s∧ ∀j,(m >>> j)%2=0→an f j=an fr j:=
 ⟨_,_,_,I.symm.trans h.1,h.2,fun j K=>GD (by rw[F];exact K)⟩
theorem GS{a b:List b8}{k:Nat}(h:k<a.length):iz (a++b) k=iz a k:=by
 induction a generalizing k with
 |nil=>simp at h
 |cons x xs ih=>
  cases k with
  |zero=>rfl
  |succ k=>rw[List.cons_append,sS,sS,ih (by simpa using h)]
theorem Bb{a b:List b8}{k:Nat}:iz (a++b) (a.length+k)=iz b k:=by
 induction a with
 |nil=>rw[List.nil_append,List.length_nil,Nat.zero_add]
 |cons x xs ih=>rw[List.cons_append,List.length_cons,show xs.length+1+k=(xs.length+k)+1 by omega,sS,ih]
theorem Lo{e:b8}: ∀{n i:Nat},i<n→iz (List.replicate n e) i=e
 |n+1,0,_=>rfl
 |n+1,i+1,h=>by rw[List.replicate_succ,sS,Lo (by omega)]
def rnd(N H:Nat)(iC:Nat→Bool)(nx:Nat→List Nat)(p:(Nat→Nat→Int)×Int):(Nat→Nat→Int)×Int:=A9 N H iC nx p.1 (List.range (H+1)) (fun _ _=>0,p.2)
def NI(N H:Nat)(iC:Nat→Bool)(nx:Nat→List Nat):Nat→(Nat→Nat→Int)×Int→(Nat→Nat→Int)×Int
 |0,p=>p
 |k+1,p=>NI N H iC nx k (rnd N H iC nx p)
structure Cr (sh:List b8) (N H:Nat) (lM:T) (rn:Nat) (now:Nat→Nat→Int) (t:Int):Prop where
 g0:iz sh 0=⟨1,.cells [.i .i64 (H:Int)] 0 true⟩
 g1:iz sh 1=⟨1,.cells [lM] 0 true⟩
 gB:iz sh 9=⟨1,.cells (xL rn N) 0 true⟩
 gT:iz sh 10=⟨1,.cells [.i .i64 t] 0 true⟩
 gR: ∀i,i<7→iz sh (rn+i)=⟨1,.cells (nF N (now i)) 0 false⟩
 b:11≤sh.length∧rn+7≤sh.length∧(rn=2∨11≤rn)
section
variable(N H:Nat)(lM nT:T)(iC:Nat→Bool)(nx:Nat→List Nat)(my: ∀f,f<N→ ∃q,∀kk,lY lM (.i kk (f:Int)) 1=some (.vp (.b (iC f)::q)))(qG: ∀f,f<N→ ∃gT q,(∀kk,lY nT (.i kk (f:Int)) 1=some (.vp (gT::q)))∧IsSl gT (nx f).length (ints ((nx f).map Int.ofNat))∧(nx f).length≤1000∧ ∀g∈nx f,g<N)(hH:H≤6)(hN:N≤1000)
include my qG hH hN
theorem cd4(U:(Nat→Nat→Int)×Int)(fr:Fr)(lh:iq b8)(sh:List b8)(h5:an fr 5= .ptr .S 0 1 0)(h7:an fr 7= .i .i64 (N:Int))(h9:an fr 9=nT)(I:an fr 10= .ptr .S 9 1 0)(V:an fr 12= .fn 96 [] [.ptr .S 1 1 0,.ptr .S 10 1 0,.ptr .S 0 1 0])(h42:an fr 42= .i .i64 0)(hC:Cr sh N H lM 2 U.1 U.2):
  Lp pE 82 At fr lh sh (.ext 2) fun f l s=>l=lh∧iz s 10=⟨1,.cells [.i .i64 (NI N H iC nx 5 U).2] 0 true⟩:=by
 refine ky Jv (fun k f l s=>an f 42= .i .i64 (k:Int)∧l=lh∧ ∃(p:(Nat→Nat→Int)×Int) (Y:Nat),Cr s N H lM Y p.1 p.2∧NI N H iC nx (5-k) p=NI N H iC nx 5 U) 5 ⟨h42,rfl,U,2,hC,rfl⟩ ?_ ?_
 ·rintro k f _ s hk K ⟨F,rfl,p,Y,⟨g0,g1,gB,gT,gR,b1,b2,b3⟩,Z⟩
  have iX:(k:Int)<5:=by omega
  have hw:wr .i64 ((k:Int)+1)=((k+1:Nat):Int):=by rw[js (by omega)];omega
  have IZ:wr .i64 ((H:Int)+1)=((H+1:Nat):Int):=by rw[js (by omega)];omega
  have e1:=atL N hN s
  generalize W:s.length=rb at*
  have DE:(s++List.replicate 7 (b8.mk 1 (.cells (nF N fun _=>0) 0 false))).length=rb+7:=by rw[List.length_append,W,List.length_replicate]
  generalize X:s++List.replicate 7 (b8.mk 1 (.cells (nF N fun _=>0) 0 false))=s1 at*
  have nM: ∀lh,Ev.stV lh (iH s1 (rb+7) ⟨1,.cells [.nilsl,.nilsl,.nilsl,.nilsl,.nilsl,.nilsl,.nilsl] 0 true⟩) (.ptr .S (rb+7) 1 0) (.agg (xL rb N)) 7=some (lh,iH (iH s1 (rb+7) ⟨1,.cells [.nilsl,.nilsl,.nilsl,.nilsl,.nilsl,.nilsl,.nilsl] 0 true⟩) (rb+7) ⟨1,.cells (xL rb N) 0 true⟩):=fun lh=>ajP (by rw[lz,if_pos rfl]) rfl rb N
  have gs: ∀j,j≠rb+7→iz (iH (iH s1 (rb+7) ⟨1,.cells [.nilsl,.nilsl,.nilsl,.nilsl,.nilsl,.nilsl,.nilsl] 0 true⟩) (rb+7) ⟨1,.cells (xL rb N) 0 true⟩) j=iz s1 j:=fun j hj=>by rw[lz,if_neg hj,lz,if_neg hj]
  have gA:iz (iH (iH s1 (rb+7) ⟨1,.cells [.nilsl,.nilsl,.nilsl,.nilsl,.nilsl,.nilsl,.nilsl] 0 true⟩) (rb+7) ⟨1,.cells (xL rb N) 0 true⟩) (rb+7)=⟨1,.cells (xL rb N) 0 true⟩:=by rw[lz,if_pos rfl]
  have l2:(iH (iH s1 (rb+7) ⟨1,.cells [.nilsl,.nilsl,.nilsl,.nilsl,.nilsl,.nilsl,.nilsl] 0 true⟩) (rb+7) ⟨1,.cells (xL rb N) 0 true⟩).length=rb+8:=by
   rw[jM _ _ _ (by rw[←DE,re,List.length_append];simp),←DE,re,List.length_append,DE];rfl
  generalize iH (iH s1 (rb+7) ⟨1,.cells [.nilsl,.nilsl,.nilsl,.nilsl,.nilsl,.nilsl,.nilsl] 0 true⟩) (rb+7) ⟨1,.cells (xL rb N) 0 true⟩=s2 at*
  have O: ∀j,j<rb→iz s2 j=iz s j:=fun j hj=>by rw[gs j (by omega),←X,GS (by omega)]
  have gr: ∀i,i<7→iz s2 (rb+i)=⟨1,.cells (nF N fun _=>0) 0 false⟩:=fun i hi=>by rw[gs _ (by omega),←X,←W,Bb,Lo hi]
  have k0:iz s2 0=⟨1,.cells [.i .i64 (H:Int)] 0 true⟩:=(O 0 (by omega)).trans g0
  simp(maxDischargeDepth:=6) only[qA,jl,seval,gd,iE,At,K,h5,h7,h9,I,V,F,iX,e1,aqu,DE,nM,hw,IZ,k0]
  generalize hD:DC pE 82 (.loop As) _=D
  obtain⟨f2,l2',s3,rfl,⟨rfl,hC3,hl3,nl⟩,mM⟩:=Ba Ju hD (cd3 N H rb (rb+7) 10 Y 9 lM nT iC nx my qG hH hN ⟨by omega,by omega,by omega,by omega,by omega,by omega⟩ p.1 (fun _ _=>0) p.2 (fun h hh=>by omega) (by omega) _ _ _ (by simp only[qA,seval,K,h9]) (by simp only[qA,seval,K,I]) (by simp only[qA,seval,K,V]) (by simp only[qA,seval]) (by simp only[qA,seval]) (by simp only[qA,seval]) ((O 9 (by omega)).trans gB) (fun h hh=>(O _ (by omega)).trans (gR h hh)) ⟨k0,(O 1 (by omega)).trans g1,gA,(O 10 (by omega)).trans gT,gr,by omega,by omega⟩)
  have f14:an f2 14= .ptr .S (rb+7) 1 0:=by rw[mM 14 (by decide)];simp only[qA,seval]
  have f10:an f2 10= .ptr .S 9 1 0:=by rw[mM 10 (by decide)];simp only[qA,seval,K,I]
  have f42:an f2 42= .i .i64 (k:Int):=by rw[mM 42 (by decide)];simp only[qA,seval,F]
  obtain⟨c0,c1,cA,cT,cR,cb1,cb2⟩:=hC3
  have DV: ∀lh,Ev.stV lh s3 (.ptr .S 9 1 0) (.agg (xL rb N)) 7=some (lh,iH s3 9 ⟨1,.cells (xL rb N) 0 true⟩):=fun lh=>ajP ((nl 9 (by omega) (by omega)).trans ((O 9 (by omega)).trans gB)) rfl rb N
  have r1:0+7≤(xL rb N).length:=Nat.le_refl _
  have r2:(xL rb N).take 7=xL rb N:=rfl
  rw[show 5-k=(4-k)+1 by omega,NI]at Z
  simp(maxDischargeDepth:=6) only[qA,jl,seval,gd,iE,f14,f10,f42,cA,r1,r2,DV,hw]
  have l4:(iH s3 9 ⟨1,.cells (xL rb N) 0 true⟩).length=rb+8:=by rw[jM _ _ _ (by omega)];omega
  exact⟨_,rb,⟨by rw[lz,if_neg (by omega)];exact c0,by rw[lz,if_neg (by omega)];exact c1,by rw[lz,if_pos rfl],by rw[lz,if_neg (by omega)];exact cT,fun i hi=>by rw[lz,if_neg (by omega)];exact cR i hi,by omega,by omega,by omega⟩,Z⟩
 ·rintro f _ s K ⟨F,rfl,p,Y,hC,Z⟩
  simp only[qA,seval,gd,At,K,F,Int.lt_irrefl]
  exact Z▸hC.gT
end
def jn(c:Ct)(l:List Fl)(i j:Nat):Bool:=match l[i]?,l[j]? with
 |some x,some y=>K7 c x y
 |_,_=>false
theorem PO{c:Ct}{l:List Fl}{i j:Nat}(hi:i<l.length)(D:j<l.length):jn c l i j=K7 c l[i] l[j]:=by
 unfold jn;rw[List.getElem?_eq_getElem hi,List.getElem?_eq_getElem D]
def CS(D:List b8)(r:List Nat)(c:T)(s:List b8):Prop:=(r= []∧c= .nilsl∧s=D)∨(r≠ []∧ ∃g,c= .isl .S D.length g 0 r.length 1∧s=D++ [⟨g,.cells (ints (r.map Int.ofNat)) 0 false⟩])
theorem PQ(J:Nat→Bool)(k:Nat):(List.range (k+1)).filter J=if J k then(List.range k).filter J++ [k]else(List.range k).filter J:=by
 rw[List.range_succ,List.filter_append]
 by_cases h:J k=true <;> simp[h]
theorem NJ(J:Nat→Bool)(k:Nat):((List.range k).filter J).length≤k:=by
 have:=List.length_filter_le J (List.range k)
 rwa [List.length_range]at this
theorem SD{a:List b8}{x e:b8}:iH (a++ [x]) a.length e=a++ [e]:=by
 induction a with
 |nil=>rfl
 |cons y D ih=>rw[List.cons_append,List.length_cons,sU,ih];rfl
section
variable(zT aT fT a7 a8 a9 iv iy iw:T)(c:Ct)(su fc:List T)(l:List Fl)(hf:IsSl fT l.length fc)(hr:iA Si l fc)(hN:l.length≤1000)
include hf hr hN
theorem pc1(i:Nat)(hi:i<l.length)(Rh:List T)(V:Rh.length=l.length)(W:Rh.drop i= .nilsl::Rh.drop (i+1))(D:List b8)(fr:Fr)(lh:iq b8)(X:an fr 0= .vp (zT::aT::fT::(jB c a7 a8 a9 iv iy iw++su)))(Y:an fr 3= .isl .L 12 1 0 l.length 1)(Z:an fr 4= .i .i64 (i:Int))(CI:an fr 19= .i .i64 (l.length:Int))(h20:an fr 20= .i .i64 0)(o12:b7 lh 12=⟨1,.cells Rh 0 true⟩):
  Lp pE 40 uL fr lh D (.ext 2) fun f I s=> ∃v,b7 I 12=⟨1,.cells (Rh.set i v) 0 true⟩∧CS D (qy l.length (jn c l) i) v s:=by
 refine ky Jy (fun k f I s=>an f 20= .i .i64 (k:Int)∧ ∃v,b7 I 12=⟨1,.cells (Rh.set i v) 0 true⟩∧CS D ((List.range k).filter fun j=>jn c l i j) v s) l.length ⟨h20,.nilsl,by
  rw[o12]
  refine congrArg (fun c=>b8.mk 1 (.cells c 0 true)) ?_
  refine List.ext_getElem (by simp) fun j h1 h2=> ?_
  rw[List.getElem_set]
  by_cases e:i=j
  ·subst e
   rw[if_pos rfl]
   have:=congrArg (fun l=>l[0]?) W
   simpa[h1]using this
  ·rw[if_neg e],.inl ⟨rfl,rfl,rfl⟩⟩ ?_ ?_
 ·rintro k f I s hk K ⟨Mo,v,o,O⟩
  have Fk:i+1≤l.length:=hi
  have hg:(Rh.set i v)[i]? =some v:=by rw[List.getElem?_set_self (by omega)]
  have wq:(Rh.set i v).length=l.length:=by rw[List.length_set];exact V
  have F: ∀u,splice (Rh.set i v) i [u]=Rh.set i u:=fun u=>by rw[uf _ _ _ (by omega),List.set_set]
  have r8:8≤roomy:=by unfold roomy;omega
  have iX:(k:Int)<l.length:=by omega
  have hw:wr .i64 ((k:Int)+1)=((k+1:Nat):Int):=by rw[js (by omega)];omega
  have U:=Xy zT aT fT a7 a8 a9 iv iy iw c su fc l hf hr i k hi hk
  rw[←PO hi hk]at U
  rw[PQ]
  have aGv:=NJ (jn c l i) k
  generalize (List.range k).filter (fun j=>jn c l i j)=r at*
  by_cases hb:jn c l i k=true
  ·rcases O with⟨rfl,rfl,rfl⟩|⟨hr0,g,rfl,rfl⟩
   ·simp(maxDischargeDepth:=6) only[qA,jl,seval,gd,uL,K,X,Y,Z,CI,Mo,iX,hw,U,hb,ahv,hi,Fk,o,hg,wq,F,jV,iK,jx,ju,jR,repl,r8,re]
    exact⟨_,rfl,.inr ⟨by simp,1,rfl,rfl⟩⟩
   ·have Pk:iz (D++ [(⟨g,.cells (ints (r.map Int.ofNat)) 0 false⟩:b8)]) D.length=⟨g,.cells (ints (r.map Int.ofNat)) 0 false⟩:=by
     have:=Bb (a:=D) (b:= [(⟨g,.cells (ints (r.map Int.ofNat)) 0 false⟩:b8)]) (k:=0)
     exact this
    have hse: ∀e,iH (D++ [(⟨g,.cells (ints (r.map Int.ofNat)) 0 false⟩:b8)]) D.length e=D++ [e]:=fun e=>SD
    have DE:r.length*1=(ints (r.map Int.ofNat)).length:=by rw[kO,List.length_map,Nat.mul_one]
    have r9:(r.length+1)*8≤roomy:=by unfold roomy;omega
    simp(maxDischargeDepth:=6) only[qA,jl,seval,gd,uL,K,X,Y,Z,CI,Mo,iX,hw,U,hb,ahv,hi,Fk,o,hg,wq,F,jV,iK,ju,jS,jc,repl,Pk,hse,DE,r9]
    exact⟨_,rfl,.inr ⟨by simp,g+1,by simp,by simp[ints]⟩⟩
  ·simp(maxDischargeDepth:=6) only[qA,jl,seval,gd,uL,K,X,Y,Z,CI,Mo,iX,hw,U,hb,ahv,hi,Fk,o,hg,wq,F]
   exact⟨v,rfl,O⟩
 ·rintro f I s K ⟨Mo,v,o,O⟩
  simp only[qA,seval,gd,uL,K,CI,Mo,Int.lt_irrefl]
  exact⟨v,o,O⟩
def CO(s:List b8)(v:T)(r:List Nat):Prop:=(r= []∧v= .nilsl)∨r≠ []∧ ∃k g,v= .isl .S k g 0 r.length 1∧k<s.length∧iz s k=⟨g,.cells (ints (r.map Int.ofNat)) 0 false⟩
omit hf hr hN in
theorem CO.mono{s:List b8}{v:T}{r:List Nat}(h:CO s v r)(x:List b8):CO (s++x) v r:=by
 rcases h with h|⟨D,k,g,F,I,K⟩
 ·exact .inl h
 ·exact .inr ⟨D,k,g,F,by rw[List.length_append];omega,by rw[GS I];exact K⟩
def SE(s:List b8):List T→List (List Nat)→Prop
 | [],[]=>True
 |v::D,r::rs=>CO s v r∧SE s D rs
 |_,_=>False
omit hf hr hN in
theorem SE.mono{s:List b8}(x:List b8): ∀{D:List T} {rs:List (List Nat)},SE s D rs→SE (s++x) D rs
 | [],[],_=>trivial
 |_::_,_::_,h=>⟨h.1.mono x,h.2.mono x⟩
omit hf hr hN in
theorem SE.snoc{s:List b8}{v:T}{r:List Nat}(h:CO s v r): ∀{D:List T} {rs:List (List Nat)},SE s D rs→SE s (D++ [v]) (rs++ [r])
 | [],[],_=>⟨h,trivial⟩
 |_::_,_::_,g=>⟨g.1,g.2.snoc h⟩
omit hf hr hN in
theorem SE.len{s:List b8}: ∀{D:List T} {rs:List (List Nat)},SE s D rs→D.length=rs.length
 | [],[],_=>rfl
 |_::_,_::_,g=>by rw[List.length_cons,List.length_cons,g.2.len]
def Z2(r:List Nat):T:=if r= []then .nilsl else .sl (ints (r.map Int.ofNat)) r.length false
omit hf hr hN in
theorem CO.fz{s:List b8}{v:T}{r:List Nat}{lh:iq b8}{m:Nat}(h:CO s v r): ∃us,(fz false (m+1) v).run (St.mk .nil lh s).get s.length=some (Z2 r,us):=by
 rcases h with⟨rfl,rfl⟩|⟨h0,k,g,rfl,h2,h3⟩
 ·exact⟨_,rfl⟩
 ·unfold Ev.fz
  have Pk:(St.mk .nil lh s).get .S k=iz s k:=rfl
  simp only[Bool.false_and,Bool.false_eq_true,if_false,Q.run,Pk,h3,if_true]
  have D:(ints (r.map Int.ofNat)).length=r.length:=by rw[kO,List.length_map]
  rw[if_pos (by omega)]
  refine⟨_,congrArg some (Prod.ext ?_ rfl)⟩
  show T.sl _ _ _=_
  rw[List.drop_zero,Nat.mul_one,List.take_of_length_le (by omega)]
  unfold Z2
  rw[if_neg h0]
omit hf hr hN in
theorem SE.fz{s:List b8}{lh:iq b8}{m:Nat}: ∀{D:List T} {rs:List (List Nat)},SE s D rs→ ∃us,(ja (Ev.fz false (m+1)) D).run (St.mk .nil lh s).get s.length=some (rs.map Z2,us)
 | [],[],_=>⟨_,rfl⟩
 |v::D,r::rs,h=>by
  obtain⟨K,F⟩:=h.1.fz (lh:=lh) (m:=m)
  obtain⟨O,I⟩:=h.2.fz (lh:=lh) (m:=m)
  simp only[ja,jh,F,I,Option.bind_some,Q.run,List.map_cons]
  exact⟨_,rfl⟩
theorem pc2(fr:Fr)(lh:iq b8)(Y:an fr 0= .vp (zT::aT::fT::(jB c a7 a8 a9 iv iy iw++su)))(Z:an fr 3= .isl .L 12 1 0 l.length 1)(jH:an fr 14= .i .i64 (l.length:Int))(qv:an fr 15= .i .i64 0)(V:b7 lh 12=⟨1,.cells (List.replicate l.length .nilsl) 0 true⟩):
  Lp pE 40 Av fr lh [] (.ext 0) fun f I s=> ∃F,b7 I 12=⟨1,.cells F 0 true⟩∧SE s F ((List.range l.length).map (qy l.length (jn c l))):=by
 refine ky Jz (fun k f I s=>an f 15= .i .i64 (k:Int)∧ ∃F,b7 I 12=⟨1,.cells (F++List.replicate (l.length-k) .nilsl) 0 true⟩∧SE s F ((List.range k).map (qy l.length (jn c l)))) l.length ⟨qv,[],by rw[V];rfl,trivial⟩ ?_ ?_
 ·rintro k f I s hk K ⟨U,F,o,O⟩
  have iX:(k:Int)<l.length:=by omega
  have hw:wr .i64 ((k:Int)+1)=((k+1:Nat):Int):=by rw[js (by omega)];omega
  have uT:=O.len
  rw[List.length_map,List.length_range]at uT
  have mf:lenI (T.isl .L 12 1 0 l.length 1)=some (.i .i64 (l.length:Int)):=rfl
  have mJ:(F++List.replicate (l.length-k) T.nilsl).length=l.length:=by rw[List.length_append,List.length_replicate];omega
  have W:(F++List.replicate (l.length-k) T.nilsl).drop k= .nilsl::(F++List.replicate (l.length-k) T.nilsl).drop (k+1):=by
   rw[show k=F.length from uT.symm,List.drop_left,show F.length+1=F.length+1 from rfl,List.drop_append,List.drop_of_length_le (by omega),List.nil_append,show l.length-F.length=(l.length-F.length-1)+1 by omega,List.replicate_succ,show F.length+1-F.length=1 by omega]
   rfl
  simp(maxDischargeDepth:=6) only[qA,jl,seval,gd,Av,K,Y,Z,jH,U,iX,hw,mf]
  generalize hD:DC pE 40 (.loop uL) _=D
  obtain⟨f2,l2,s2,rfl,⟨v,o2,hS⟩,mM⟩:=Ba Jy hD (pc1 zT aT fT a7 a8 a9 iv iy iw c su fc l hf hr hN k hk (F++List.replicate (l.length-k) .nilsl) mJ W s _ _ (by simp only[qA,seval,K,Y]) (by simp only[qA,seval,K,Z]) (by simp only[qA,seval]) (by simp only[qA,seval]) (by simp only[qA,seval]) o)
  have X:an f2 15= .i .i64 (k:Int):=by rw[mM 15 (by decide)];simp only[qA,seval,U]
  simp(maxDischargeDepth:=6) only[qA,jl,seval,gd,X,hw]
  refine⟨F++ [v], ?_, ?_⟩
  ·rw[o2]
   refine congrArg (fun c=>b8.mk 1 (.cells c 0 true)) ?_
   rw[List.set_append,if_neg (by omega),show k-F.length=0 by omega,show l.length-k=(l.length-(k+1))+1 by omega,List.replicate_succ,List.set_cons_zero,List.append_assoc]
   rfl
  ·rw[List.range_succ,List.map_append]
   rcases hS with⟨h1,rfl,rfl⟩|⟨h1,g,rfl,rfl⟩
   ·exact O.snoc (.inl ⟨h1,rfl⟩)
   ·exact(O.mono _).snoc (.inr ⟨h1,_,g,rfl,by simp,Bb (k:=0)⟩)
 ·rintro f I s K ⟨U,F,o,O⟩
  simp only[qA,seval,gd,Av,K,jH,U,Int.lt_irrefl]
  rw[Nat.sub_self,List.replicate_zero,List.append_nil]at o
  exact⟨F,o,O⟩
def SF(N:Nat)(J:Nat→Nat→Bool):T:= .sl (((List.range N).map (qy N J)).map Z2) N false
theorem Lq: ∃s,be pE 57 [.vp (zT::aT::fT::(jB c a7 a8 a9 iv iy iw++su))] []=some (SF l.length (jn c l),s):=by
 have U:l.length*24≤roomy:=by unfold roomy;omega
 have V:l.length≤roomy:=by unfold roomy;omega
 have W:=hf.lenI
 have TB:repl [T.nilsl] l.length=List.replicate l.length .nilsl:=by
  generalize l.length=n
  induction n with
  |zero=>rfl
  |succ n ih=>rw[repl,ih,List.replicate_succ];rfl
 have F:lenI (T.isl .L 12 1 0 l.length 1)=some (.i .i64 (l.length:Int)):=rfl
 rw[il aal (by simp[c57])]
 simp(maxDischargeDepth:=6) only[qA,seval,c57,W,F,TB,U,V]
 generalize X:DC pE 40 (.loop Av) _=D
 obtain⟨Y,K,Z,rfl,⟨vs,o2,O⟩,mM⟩:=Ba Jz X (pc2 zT aT fT a7 a8 a9 iv iy iw c su fc l hf hr hN _ _ (by simp only[qA,seval]) (by simp only[qA,seval]) (by simp only[qA,seval]) (by simp only[qA,seval]) (by simp only[qA,seval]))
 have f3:an Y 3= .isl .L 12 1 0 l.length 1:=by rw[mM 3 (by decide)];simp only[qA,seval]
 have uT:=O.len
 rw[List.length_map,List.length_range]at uT
 obtain⟨us,e⟩:=O.fz (lh:=K) (m:=6)
 have I: ∃us,fzV K Z false (.isl .L 12 1 0 l.length 1)=some (SF l.length (jn c l),us):=by
  rw[HJ,o2]
  unfold RA;dsimp only
  rw[if_pos ⟨rfl,by omega⟩,List.drop_zero,Nat.mul_one,List.take_of_length_le (by omega),e]
  exact⟨_,rfl⟩
 obtain⟨us2,e2⟩:=I
 simp(maxDischargeDepth:=6) only[qA,seval,f3,e2]
 exact⟨_,rfl⟩
end
def Yh(N H:Nat)(iC:Nat→Bool)(nx:Nat→List Nat):Int:=(NI N H iC nx 5 (EA H iC (List.range N) (fun _ _=>0,0))).2
def nG(ops:List Int)(f:Nat):Bool:=decide ((f:Int)∈ops)
theorem Yi(N:Nat)(ops:List Int)(f:Nat)(hf:f<N): ∃q,∀kk,lY (.sl (xV (inB N ops)) N false) (.i kk (f:Int)) 1=some (.vp (.b (nG ops f)::q)):=by
 refine⟨(xV (inB N ops)).drop (f+1),fun kk=> ?_⟩
 rw[oq,if_pos ⟨by omega,by simpa using hf,by rw[zL];simp;omega⟩,Int.toNat_natCast,Nat.mul_one,List.drop_eq_getElem_cons (by rw[zL];exact hf)]
 refine congrArg some (congrArg T.vp (congrArg (· ::_) ?_))
 simp[xV,inB,nG]
theorem Yj(N:Nat)(J:Nat→Nat→Bool)(hN:N≤1000)(f:Nat)(hf:f<N): ∃gT q,(∀kk,lY (SF N J) (.i kk (f:Int)) 1=some (.vp (gT::q)))∧IsSl gT (qy N J f).length (ints ((qy N J f).map Int.ofNat))∧(qy N J f).length≤1000∧ ∀g∈qy N J f,g<N:=by
 have hl:(((List.range N).map (qy N J)).map Z2).length=N:=by simp
 refine⟨Z2 (qy N J f),(((List.range N).map (qy N J)).map Z2).drop (f+1),fun kk=> ?_, ?_, ?_,fun g D=>List.mem_range.1 (List.mem_filter.1 D).1⟩
 ·unfold SF
  rw[oq,if_pos ⟨by omega,by simpa using hf,by rw[hl];simp;omega⟩,Int.toNat_natCast,Nat.mul_one,List.drop_eq_getElem_cons (by rw[hl];exact hf)]
  refine congrArg some (congrArg T.vp (congrArg (· ::_) ?_))
  simp
 ·unfold Z2
  split
  ·rename_i h;rw[h];exact .inl ⟨rfl,rfl,rfl⟩
  ·exact .inr ⟨_,rfl⟩
 ·exact Nat.le_trans (NJ (J f) N) hN
section
variable(zT aT fT a7 a8 a9 iv iy iw:T)(c:Ct)(su fc:List T)(l:List Fl)(hf:IsSl fT l.length fc)(hr:iA Si l fc)(hN:l.length≤1000)
include hf hr hN
theorem ac4(ops:List Int)(oT:T)(ho:IsSl oT ops.length (ints ops))(hl:ops.length≤1000)(jP: ∀x∈ops,0≤x∧x<(l.length:Int))(H:Nat)(hH:H≤6):
  ∃s,be pE 55 [.vp (zT::aT::fT::(jB c a7 a8 a9 iv iy iw++su)),oT,.i .i64 (H:Int)] []=some (.i .i64 (Yh l.length H (nG ops) (qy l.length (jn c l))),s):=by
 have mf:=hf.lenI
 have X:=ho.froz
 have Lr:=ho.froz1
 have O:=Ey zT aT fT (jB c a7 a8 a9 iv iy iw++su) l.length mf hN ops oT ho hl jP
 obtain⟨s0,e2⟩:=Lq zT aT fT a7 a8 a9 iv iy iw c su fc l hf hr hN
 have e3:=fun sh=>atL l.length hN sh
 have my:=Yi l.length ops
 have qG:=Yj l.length (jn c l) hN
 have z1:froz1 (.sl (xV (inB l.length ops)) l.length false)=true:=rfl
 have z2:froz1 (SF l.length (jn c l))=true:=rfl
 have z3:froz (SF l.length (jn c l))=true:=rfl
 have z4:froz (.sl (xV (inB l.length ops)) l.length false)=true:=rfl
 have z5:cellsOf (.sl (xV (inB l.length ops)) l.length false)= [.sl (xV (inB l.length ops)) l.length false]:=rfl
 have z6:noTup (.sl (xV (inB l.length ops)) l.length false)=true:=rfl
 generalize hI:T.sl (xV (inB l.length ops)) l.length false=lM at*
 generalize hX:SF l.length (jn c l)=nT at*
 rw[il apW (by simp[c55])]
 have Y: ∀x:b8,List.replicate 7 x= [x,x,x,x,x,x,x]:=fun _=>rfl
 have nM: ∀(lh:iq b8) (Z O r:b8),Ev.stV lh [Z,O,r,r,r,r,r,r,r,⟨1,.cells [.nilsl,.nilsl,.nilsl,.nilsl,.nilsl,.nilsl,.nilsl] 0 true⟩] (.ptr .S 9 1 0) (.agg (xL 2 l.length)) 7=some (lh,[Z,O,r,r,r,r,r,r,r,⟨1,.cells (xL 2 l.length) 0 true⟩]):=fun lh Z O r=>ajP rfl rfl 2 l.length
 simp(maxDischargeDepth:=6) only[qA,jl,j3,Y,seval,iE,c55,mf,O,e2,e3,axT,axW,aqu,X,Lr,z1,z2,z3,z4,z5,z6,nM]
 generalize W:DC pE 82 (.loop Au) _=D
 obtain⟨K,l2,s2,rfl,⟨rfl,hC,wq,nl⟩,I⟩:=Ba Jw W (cd0 l.length H 2 9 10 lM (nG ops) my hH hN ⟨by omega,by omega,by omega,by omega,by omega,by omega⟩ (fun _ _=>0) 0 _ _ _ (by simp only[qA,seval]) (by simp only[qA,seval]) (by simp only[qA,seval]) (by simp only[qA,seval]) ⟨rfl,rfl,rfl,rfl,fun i hi=>by
  have:i=0∨i=1∨i=2∨i=3∨i=4∨i=5∨i=6:=by omega
  rcases this with rfl|rfl|rfl|rfl|rfl|rfl|rfl <;> rfl,by simp,by simp⟩)
 have f5:an K 5= .ptr .S 0 1 0:=by rw[I 5 (by decide)];simp only[qA,seval]
 have f7:an K 7= .i .i64 (l.length:Int):=by rw[I 7 (by decide)];simp only[qA,seval]
 have f9:an K 9=nT:=by rw[I 9 (by decide)];simp only[qA,seval]
 have U:an K 10= .ptr .S 9 1 0:=by rw[I 10 (by decide)];simp only[qA,seval]
 have F:an K 11= .ptr .S 10 1 0:=by rw[I 11 (by decide)];simp only[qA,seval]
 have V:an K 12= .fn 96 [] [.ptr .S 1 1 0,.ptr .S 10 1 0,.ptr .S 0 1 0]:=by rw[I 12 (by decide)];simp only[qA,seval]
 clear I W
 simp(maxDischargeDepth:=6) only[qA,jl,seval,iE,f5,f7,f9,U,F,V]
 generalize W:DC pE 82 (.loop At) _=D
 obtain⟨c0,c1,cA,cT,cR,cb1,cb2⟩:=hC
 have Cm:s2.length=11:=wq
 obtain⟨f3,l3,s3,rfl,⟨rfl,hT⟩,CN⟩:=Ba Jv W (cd4 l.length H lM nT (nG ops) (qy l.length (jn c l)) my qG hH hN (EA H (nG ops) (List.range l.length) (fun _ _=>0,0)) _ _ _ (by simp only[qA,seval,f5]) (by simp only[qA,seval,f7]) (by simp only[qA,seval,f9]) (by simp only[qA,seval,U]) (by simp only[qA,seval,V]) (by simp only[qA,seval]) ⟨c0,c1,cA,cT,cR,by omega,by omega,.inl rfl⟩)
 have F:an f3 11= .ptr .S 10 1 0:=by rw[CN 11 (by decide)];simp only[qA,seval,F]
 simp(maxDischargeDepth:=6) only[qA,jl,seval,iE,F,hT]
 exact⟨_,rfl⟩
end
def wE(n:Nat):Int:=wr .i64 (n:Int)
theorem wrap64(n:Int):IntKind.i64.wrap n=if 9223372036854775808≤n%18446744073709551616 then n%18446744073709551616-18446744073709551616 else n%18446744073709551616:=by
 unfold IntKind.wrap
 simp[IntKind.bits,IntKind.signed]
theorem NK(n:Nat): ∃k:Int,wE n=n+18446744073709551616*k∧ -9223372036854775808≤wE n∧wE n<9223372036854775808:=by
 unfold wE
 rw[DB,wrap64]
 split
 ·exact⟨-((n:Int)/18446744073709551616)-1,by omega,by omega,by omega⟩
 ·exact⟨-((n:Int)/18446744073709551616),by omega,by omega,by omega⟩
theorem Yk{a b:Int}(h: ∃k:Int,a=b+18446744073709551616*k):wr .i64 a=wr .i64 b:=by
 obtain⟨k,rfl⟩:=h
 rw[DB,DB,wrap64,wrap64,show(b+18446744073709551616*k)%18446744073709551616=b%18446744073709551616 by omega]
theorem CP(a b:Nat):wr .i64 (wE a+wE b)=wE (a+b):=by
 obtain⟨k,h,_⟩:=NK a
 obtain⟨m,D,_⟩:=NK b
 exact Yk ⟨k+m,by rw[h,D];push_cast;omega⟩
theorem vq:wE 0=0:=by decide
theorem ac5:wE 1=1:=by decide
theorem vt{a b:Nat}(h:wE b=0):wE (a+b)=wE a:=by
 obtain⟨k,D,_⟩:=NK b
 exact Yk ⟨-k,by rw[h]at D;push_cast;omega⟩
section
variable(N H:Nat)(J:Nat→Nat→Bool)(iC:Nat→Bool)
def Rl(p:(Nat→Nat→Int)×Int)(q:(Nat→Nat→Nat)×Nat):Prop:=(∀h g,p.1 h g=wE (q.1 h g))∧p.2=wE q.2
theorem ac6(h f w:Nat)(p:(Nat→Nat→Int)×Int)(q:(Nat→Nat→Nat)×Nat)(V:Rl p q):Rl (xM H (iC f) h f (wE w) p.1,Ez H (iC f) h (wE w) p.2) (Ew H iC h f w q.1,q.2+FV H iC h f w):=by
 obtain⟨D,F⟩:=V
 constructor
 ·intro I g
  show xM _ _ _ _ _ _ _ _=wE (Ew _ _ _ _ _ _ _ _)
  unfold xM Ew
  by_cases K:g=f
  ·subst K
   by_cases O:I=h
   ·subst O
    cases hi:iC g <;> simp[oG,hi,D,CP]
   ·by_cases U:I=h+1∧h<H
    ·simp[U,D,CP]
    ·simp[O,U,D]
  ·simp[K,D]
 ·show Ez _ _ _ _ _=wE (q.2+FV _ _ _ _ _)
  unfold Ez FV
  by_cases hl:h<H
  ·cases hi:iC f <;> simp[hl,F,CP,oG,Nat.add_assoc]
  ·cases hi:iC f <;> simp[hl,F,CP,oG]
theorem Ij(h w:Nat): ∀(D:List Nat) (p:(Nat→Nat→Int)×Int) (q:(Nat→Nat→Nat)×Nat),Rl p q→Rl (Ce H iC h (wE w) D p) (Z1 H iC h w D q.1,tnG H iC h w D q.2)
 | [],p,q,F=>F
 |g::D,p,q,F=>Ij h w D _ _ (ac6 H iC h g w p q F)
theorem Yl(h w:Nat)(D:wE w=0)(F:List Nat)(p:(Nat→Nat→Int)×Int)(q:(Nat→Nat→Nat)×Nat)(O:Rl p q):Rl p (Z1 H iC h w F q.1,tnG H iC h w F q.2):=by
 induction F generalizing q with
 |nil=>exact O
 |cons g F ih=>
  refine ih (Ew H iC h g w q.1,q.2+FV H iC h g w) ⟨fun U X=> ?_, ?_⟩
  ·rw[O.1]
   show _=wE (Ew _ _ _ _ _ _ _ _)
   unfold Ew
   have I: ∀b,wE (oG b*w)=0:=fun b=>by cases b <;> simp[oG,D,vq]
   by_cases V:X=g
   ·rw[if_pos V,←Nat.add_assoc]
    by_cases W:U=h
    ·rw[if_pos W]
     by_cases K:U=h+1∧h<H
     ·omega
     ·rw[if_neg K,Nat.add_zero,vt (I _)]
    ·rw[if_neg W,Nat.add_zero]
     by_cases K:U=h+1∧h<H
     ·rw[if_pos K,vt D]
     ·rw[if_neg K,Nat.add_zero]
   ·rw[if_neg V,Nat.add_zero]
  ·rw[O.2]
   show _=wE (_+FV _ _ _ _ _)
   unfold FV
   have I: ∀b,wE (oG b*w)=0:=fun b=>by cases b <;> simp[oG,D,vq]
   rw[←Nat.add_assoc]
   by_cases hl:h<H
   ·rw[if_pos hl,vt D,vt (I _)]
   ·rw[if_neg hl,Nat.add_zero,vt (I _)]
theorem GU(nx:Nat→List Nat)(h:Nat)(r:Nat→Int): ∀(l:List Nat) (f:Nat) (p:(Nat→Nat→Int)×Int),xO H iC nx h r (l++ [f]) p=if r f=0 then xO H iC nx h r l p else Ce H iC h (r f) (nx f) (xO H iC nx h r l p)
 | [],f,p=>rfl
 |x::l,f,p=>by rw[List.cons_append,xO,xO,GU nx h r l f]
theorem PR(h:Nat)(r:Nat→Int)(D:Nat→Nat→Nat)(hr: ∀f,r f=wE (D h f))(p:(Nat→Nat→Int)×Int)(q:(Nat→Nat→Nat)×Nat)(F:Rl p q): ∀k,Rl (xO H iC (qy N J) h r (List.range k) p) (rnF N H J iC D h k q.1,tnF N H J iC D h k q.2)
 |0=>F
 |k+1=>by
  rw[List.range_succ,GU,hr]
  have ih:=PR h r D hr p q F k
  split
  ·rename_i I
   exact Yl H iC h _ I _ _ (_,_) ih
  ·exact Ij H iC h _ _ _ (_,_) ih
theorem GV(nx:Nat→List Nat)(D:Nat→Nat→Int): ∀(l:List Nat) (h:Nat) (p:(Nat→Nat→Int)×Int),A9 N H iC nx D (l++ [h]) p=xO H iC nx h (D h) (List.range N) (A9 N H iC nx D l p)
 | [],h,p=>rfl
 |x::l,h,p=>by rw[List.cons_append,A9,A9,GV nx D l h]
theorem PS(D:Nat→Nat→Int)(Ym:Nat→Nat→Nat)(I: ∀h f,D h f=wE (Ym h f))(t:Int)(F:Nat)(K:t=wE F): ∀k,Rl (A9 N H iC (qy N J) D (List.range k) (fun _ _=>0,t)) (X9 N H J iC Ym k,tnH N H J iC Ym k F)
 |0=>⟨fun _ _=>vq.symm,K⟩
 |k+1=>by
  rw[List.range_succ,GV]
  exact PR N H J iC k (D k) Ym (I k) _ (_,_) (PS D Ym I t F K k) N
theorem PT: ∀(l:List Nat) (p:(Nat→Nat→Int)×Int),EA H iC l p=Ce H iC 0 1 l p
 | [],p=>rfl
 |f::l,p=>by rw[EA,Ce,PT l]
def rN(p:(Nat→Nat→Nat)×Nat):(Nat→Nat→Nat)×Nat:=(X9 N H J iC p.1 (H+1),tnH N H J iC p.1 (H+1) p.2)
def rsN:Nat→(Nat→Nat→Nat)×Nat→(Nat→Nat→Nat)×Nat
 |0,p=>p
 |k+1,p=>rsN k (rN N H J iC p)
theorem PU: ∀(k:Nat) (p:(Nat→Nat→Int)×Int) (q:(Nat→Nat→Nat)×Nat),Rl p q→Rl (NI N H iC (qy N J) k p) (rsN N H J iC k q)
 |0,p,q,h=>h
 |k+1,p,q,h=>PU k _ _ (PS N H J iC p.1 q.1 h.1 p.2 q.2 h.2 (H+1))
def wF(c:Nat→Nat→Nat→Nat):Nat→Nat
 |0=>0
 |k+1=>wF c k+Mn N H (fun h g=>c (k+1) g h)
theorem GW{n m:Nat→Nat→Nat}(h: ∀D g,D≤H→g<N→n D g=m D g):Mn N H n=Mn N H m:=
 jv fun D I=>jv fun g F=>h D g (by omega) F
theorem ajR(m k:Nat)(q:(Nat→Nat→Nat)×Nat)(V: ∀h g,h≤H→g<N→q.1 h g=cA N J iC (m+1) g h)(O:q.2=wF N H (cA N J iC) (m+1)):(rsN N H J iC k q).2=wF N H (cA N J iC) (m+k+1):=by
 induction k generalizing m q with
 |zero=>exact O
 |succ k ih=>
  have e: ∀h g,h≤H→g<N→X9 N H J iC q.1 (H+1) h g=cA N J iC (m+2) g h:=fun h g F I=>by
   rw[Yc N H J iC q.1 h g F I]
   show FU iC g _ h=FU iC g _ h
   unfold FU
   have U: ∀D,D≤H→(Sm N fun f=>oG (J f g)*q.1 D f)=Sm N fun f=>oG (J f g)*cA N J iC (m+1) f D:=fun D K=>jv fun f hf=>by rw[V D f K hf]
   dsimp only
   rw[U h F]
   congr 1
   cases h with
   |zero=>rfl
   |succ h=>exact U h (by omega)
  rw[rsN,ih (m+1) (rN N H J iC q) (fun h g F I=>e h g F I) ?_]
  ·rw[show m+1+k+1=m+(k+1)+1 by omega]
  ·show tnH N H J iC q.1 (H+1) q.2=_
   rw[Ye N H J iC q.1 q.2 (H+1) (Nat.le_refl _),O,GW N H e]
   rfl
theorem ac7:Yh N H iC (qy N J)=wE (wF N H (cB N J iC) 6):=by
 unfold Yh
 rw[PT]
 have K:Rl ((fun _ _=>0,0):(Nat→Nat→Int)×Int) ((fun _ _=>0,0):(Nat→Nat→Nat)×Nat):=⟨fun _ _=>vq.symm,vq.symm⟩
 have F:=Ij H iC 0 1 (List.range N) _ _ K
 rw[ac5]at F
 rw[(PU N H J iC 5 _ _ F).2]
 have I: ∀h g,h≤H→g<N→Z1 H iC 0 1 (List.range N) (fun _ _=>0) h g=cA N J iC 1 g h:=fun h g U D=>by
  rw[NG,A8 D]
  show _=FU iC g vi h
  unfold FU
  rcases h with _|_|h
  ·simp[vi,sf]
  ·have:0<H:=by omega
   simp[vi,sf,this]
  ·simp[vi,sf]
 have O:tnG H iC 0 1 (List.range N) 0=wF N H (cA N J iC) 1:=by
  have:=NH N H iC 0 1 (Nat.zero_le _) (List.range N) (fun _ _=>0) 0 fun g D=>List.mem_range.1 D
  rw[GW N H I,show Mn N H (fun _ _=>0)=0 by unfold Mn;simp only[pz],Nat.add_zero]at this
  rw[this]
  rfl
 rw[ajR N H J iC 0 5 (_,_) I O]
 congr 1
 have: ∀k,wF N H (cA N J iC) k=wF N H (cB N J iC) k:=by
  intro k
  induction k with
  |zero=>rfl
  |succ k ih=>
   rw[wF,wF,ih]
   congr 1
   exact jv fun h _=>cAB N J iC k h
 exact this _
end
def EB(N:Nat):Option Int→List Int→Int
 |_,[]=>0
 |p,x::l=>if 0≤x∧x<(N:Int)then match p with
    |some q=>if x≤q then 8 else EB N (some x) l
    |none=>EB N (some x) l
  else 6
def SG(l:List Int)(k:Nat):Option Int:=if k=0 then none else l[k-1]?
theorem SI(l:List Int)(k:Nat)(hk:k<l.length):SG l (k+1)=some l[k]:=by
 unfold SG;rw[if_neg (by omega),Nat.add_sub_cancel,List.getElem?_eq_getElem hk]
theorem Yn(l:List Int)(k:Nat)(hk:k<l.length)(D:k≠0):SG l k=some l[k-1]:=by
 unfold SG;rw[if_neg D,List.getElem?_eq_getElem (by omega)]
theorem EC(N:Nat)(p:Option Int)(x:Int)(l:List Int):EB N p (x::l)=if 0≤x∧x<(N:Int)then(match p with|some q=>if x≤q then 8 else EB N (some x) l|none=>EB N (some x) l)else 6:=by cases p <;> rfl
theorem ac8(N:Nat)(p:Option Int):EB N p []=0:=by cases p <;> rfl
section
variable(zT aT fT:T)(r fc:List T)(N:Nat)(hf:IsSl fT N fc)(hN:N≤1000)(ops:List Int)(oT:T)(ho:IsSl oT ops.length (ints ops))(hl:ops.length≤1000)
include hf hN ho hl
theorem aAh(fr:Fr)(lh:iq b8)(sh:List b8)(h0:an fr 0= .vp (zT::aT::fT::r))(h1:an fr 1=oT)(h9:an fr 9=oT)(F:an fr 10= .i .i64 (ops.length:Int))(V:an fr 11= .i .i64 0):
  xy pE 38 Ah fr lh sh 0 6 (EB N none ops) (fun W X=>X=sh):=by
 have _:=hN
 refine kj Je (fun k f W X=>an f 11= .i .i64 (k:Int)∧X=sh∧EB N none ops=EB N (SG ops k) (ops.drop k)) ops.length ⟨V,rfl,rfl⟩ ?_ ?_
 ·rintro k f W _ hk I ⟨D,rfl,K⟩
  have iX:(k:Int)<ops.length:=by omega
  have hw:wr .i64 ((k:Int)+1)=((k+1:Nat):Int):=by rw[js (by omega)];omega
  have U:=fun kk=>ho.ia (sz:=1) (k:=k) (kk:=kk) (by rw[kO];omega) hk
  simp only[Nat.mul_one]at U
  rw[oX ops k hk]at U
  have Y:=kq (Xx zT aT fT r fc N hf ops[k])
  simp only[decide_eq_true_eq]at Y
  rw[List.drop_eq_getElem_cons hk,EC]at K
  rw[SI ops k hk]
  by_cases O:k=0
  ·subst O
   have Z:SG ops 0=none:=rfl
   rw[Z]at K
   have xJ: ∀kk,lY oT (.i kk 0) 1=some (.vp (.i .i64 ops[0]::(ints ops).drop (0+1))):=fun kk=>U kk
   have aAi:an f 11= .i .i64 0:=D
   have Ml:(0:Int)<ops.length:=iX
   simp(maxDischargeDepth:=6) only[qB,seval,gd,Ah,I,h0,h1,h9,F,aAi,Ml,xJ,Y,ahl]
   clear I
   grind
  ·rw[Yn ops k hk O]at K
   have FR:=fun kk=>ho.ia (sz:=1) (k:=k-1) (kk:=kk) (by rw[kO];omega) (by omega)
   simp only[Nat.mul_one]at FR
   rw[oX ops (k-1) (by omega)]at FR
   have IZ:=uc (k:=k) (by omega) (by omega)
   have hgt:(0:Int)<(k:Int):=by omega
   simp(maxDischargeDepth:=6) only[qB,seval,gd,Ah,I,h0,h1,h9,F,D,iX,hw,IZ,hgt,U,FR,Y,ahl]
   clear I
   grind
 ·rintro f W _ I ⟨D,rfl,K⟩
  rw[List.drop_length,ac8]at K
  simp only[qB,seval,gd,Ah,I,F,D,Int.lt_irrefl,K]
theorem ajS(H:Int):be pE 24 [.vp (zT::aT::fT::r),oT,.i .i64 H] []=some (.i .i64 (if EB N none ops=0 then(if H<0∨6<H then 5 else 0)else EB N none ops),[]):=by
 have D:=fun fr lh sh=>aAh zT aT fT r fc N hf hN ops oT ho hl fr lh sh
 have F:=ho.lenI
 rw[il apz (by simp[c24])]
 simp(maxDischargeDepth:=6) only[qB,seval,c24,Je,F,D]
 clear D
 grind
end
end Go.Proofs.YtcpceiclnbmgiaaGreat
