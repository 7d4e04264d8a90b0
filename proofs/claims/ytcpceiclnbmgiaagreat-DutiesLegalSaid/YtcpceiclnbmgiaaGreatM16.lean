/- Walks of functions of the program and of the reference, and their plain laws, part 16. Conditions: the theorems' own. -/
import Derived.Test.YtcpceiclnbmgiaaGreatM15
import Derived.KernelRfl
set_option maxRecDepth 100000
set_option linter.unusedSimpArgs false
set_option linter.unusedVariables false
set_option maxHeartbeats 16000000
namespace Go.Proofs.YtcpceiclnbmgiaaGreat
open Go Go.Ev
theorem ajl{lh:iw b8}{sh:List b8}{k:Nat}{cs:List T}(F:iz sh k=⟨1,.cells cs 0 true⟩)(hc:cs.length=7)(D N:Nat):Ev.stV lh sh (.ptr .S k 1 0) (.agg (xG D N)) 7=some (lh,iH sh k ⟨1,.cells (xG D N) 0 true⟩):=by
 rw[nI (by rfl) F,kS,if_pos ⟨rfl,rfl,rfl,Nat.le_refl _,by omega⟩]
 refine congrArg (fun c=>some (lh,iH sh k ⟨1,.cells c 0 true⟩)) ?_
 match cs,hc with
 | [_,_,_,_,_,_,_],_=>rfl
theorem atr(n:Nat)(h:n≤1000)(sh:List b8):be pE 95 [.i .i64 (n:Int)] sh=some (.agg (xG sh.length n),sh++List.replicate 7 ⟨1,.cells (nv n fun _=>0) 0 false⟩):=by
 rw[ajj n h sh,show repl [T.i .i64 0] n=nv n fun _=>0 from ?_]
 ·rfl
 ·clear h
  induction n with
  |zero=>rfl
  |succ n ih=>
   rw[repl,ih]
   unfold nv
   rw[List.range_succ_eq_map,List.map_cons,List.map_map]
   rfl
theorem Cq{E:Env}{n:Nat}{a:fx}{m:Nat}(F:mn (j3 (.loop a))=m){fr:Fr}{lh:iw b8}{sh:List b8}{D:Option (Out×St)}(I:DC E n (.loop a) ⟨fr,lh,sh⟩=D){o:Out}{P:Fr→iw b8→List b8→Prop}(h:Lp E n a fr lh sh o P):
  ∃f l s,D=some (o,⟨f,l,s⟩)∧P f l s∧ ∀j,(m >>> j)%2=0→an f j=an fr j:=
 ⟨_,_,_,I.symm.trans h.1,h.2,fun j K=>Gv (by rw[F];exact K)⟩
theorem GM{a b:List b8}{k:Nat}(h:k<a.length):iz (a++b) k=iz a k:=by
 induction a generalizing k with
 |nil=>simp at h
 |cons x xs ih=>
  cases k with
  |zero=>rfl
  |succ k=>rw[List.cons_append,sJ,sJ,ih (by simpa using h)]
theorem A0{a b:List b8}{k:Nat}:iz (a++b) (a.length+k)=iz b k:=by
 induction a with
 |nil=>rw[List.nil_append,List.length_nil,Nat.zero_add]
 |cons x xs ih=>rw[List.cons_append,List.length_cons,show xs.length+1+k=(xs.length+k)+1 by omega,sJ,ih]
theorem K7{e:b8}: ∀{n i:Nat},i<n→iz (List.replicate n e) i=e
 |n+1,0,_=>rfl
 |n+1,i+1,h=>by rw[List.replicate_succ,sJ,K7 (by omega)]
def rnd(N H:Nat)(iC:Nat→Bool)(nx:Nat→List Nat)(p:(Nat→Nat→Int)×Int):(Nat→Nat→Int)×Int:=AZ N H iC nx p.1 (List.range (H+1)) (fun _ _=>0,p.2)
def Nj(N H:Nat)(iC:Nat→Bool)(nx:Nat→List Nat):Nat→(Nat→Nat→Int)×Int→(Nat→Nat→Int)×Int
 |0,p=>p
 |k+1,p=>Nj N H iC nx k (rnd N H iC nx p)
structure Cr (sh:List b8) (N H:Nat) (lJ:T) (rn:Nat) (now:Nat→Nat→Int) (t:Int):Prop where
 g0:iz sh 0=⟨1,.cells [.i .i64 (H:Int)] 0 true⟩
 g1:iz sh 1=⟨1,.cells [lJ] 0 true⟩
 gB:iz sh 9=⟨1,.cells (xG rn N) 0 true⟩
 gT:iz sh 10=⟨1,.cells [.i .i64 t] 0 true⟩
 gR: ∀i,i<7→iz sh (rn+i)=⟨1,.cells (nv N (now i)) 0 false⟩
 b:11≤sh.length∧rn+7≤sh.length∧(rn=2∨11≤rn)
section
variable(N H:Nat)(lJ nT:T)(iC:Nat→Bool)(nx:Nat→List Nat)(mH: ∀f,f<N→ ∃q,∀kk,lR lJ (.i kk (f:Int)) 1=some (.vp (.b (iC f)::q)))(qv: ∀f,f<N→ ∃gT q,(∀kk,lR nT (.i kk (f:Int)) 1=some (.vp (gT::q)))∧IsSl gT (nx f).length (ints ((nx f).map Int.ofNat))∧(nx f).length≤1000∧ ∀g∈nx f,g<N)(hH:H≤6)(hN:N≤1000)
include mH qv hH hN
theorem cd4(U:(Nat→Nat→Int)×Int)(fr:Fr)(lh:iw b8)(sh:List b8)(h5:an fr 5= .ptr .S 0 1 0)(h7:an fr 7= .i .i64 (N:Int))(h9:an fr 9=nT)(I:an fr 10= .ptr .S 9 1 0)(V:an fr 12= .fn 96 [] [.ptr .S 1 1 0,.ptr .S 10 1 0,.ptr .S 0 1 0])(Z:an fr 42= .i .i64 0)(hC:Cr sh N H lJ 2 U.1 U.2):
  Lp pE 82 Ah fr lh sh (.ext 2) fun f l s=>l=lh∧iz s 10=⟨1,.cells [.i .i64 (Nj N H iC nx 5 U).2] 0 true⟩:=by
 refine kE Jh (fun k f l s=>an f 42= .i .i64 (k:Int)∧l=lh∧ ∃(p:(Nat→Nat→Int)×Int) (X:Nat),Cr s N H lJ X p.1 p.2∧Nj N H iC nx (5-k) p=Nj N H iC nx 5 U) 5 ⟨Z,rfl,U,2,hC,rfl⟩ ?_ ?_
 ·rintro k f _ s hk K ⟨F,rfl,p,X,⟨g0,g1,gB,gT,gR,b1,b2,b3⟩,Y⟩
  have iW:(k:Int)<5:=by omega
  have hw:wr .i64 ((k:Int)+1)=((k+1:Nat):Int):=by rw[jw (by omega)];omega
  have GC:wr .i64 ((H:Int)+1)=((H+1:Nat):Int):=by rw[jw (by omega)];omega
  have e1:=atr N hN s
  generalize W:s.length=rb at*
  have Dl:(s++List.replicate 7 (b8.mk 1 (.cells (nv N fun _=>0) 0 false))).length=rb+7:=by rw[List.length_append,W,List.length_replicate]
  generalize vZ:s++List.replicate 7 (b8.mk 1 (.cells (nv N fun _=>0) 0 false))=s1 at*
  have nF: ∀lh,Ev.stV lh (iH s1 (rb+7) ⟨1,.cells [.nilsl,.nilsl,.nilsl,.nilsl,.nilsl,.nilsl,.nilsl] 0 true⟩) (.ptr .S (rb+7) 1 0) (.agg (xG rb N)) 7=some (lh,iH (iH s1 (rb+7) ⟨1,.cells [.nilsl,.nilsl,.nilsl,.nilsl,.nilsl,.nilsl,.nilsl] 0 true⟩) (rb+7) ⟨1,.cells (xG rb N) 0 true⟩):=fun lh=>ajl (by rw[ln,if_pos rfl]) rfl rb N
  have gs: ∀j,j≠rb+7→iz (iH (iH s1 (rb+7) ⟨1,.cells [.nilsl,.nilsl,.nilsl,.nilsl,.nilsl,.nilsl,.nilsl] 0 true⟩) (rb+7) ⟨1,.cells (xG rb N) 0 true⟩) j=iz s1 j:=fun j hj=>by rw[ln,if_neg hj,ln,if_neg hj]
  have gA:iz (iH (iH s1 (rb+7) ⟨1,.cells [.nilsl,.nilsl,.nilsl,.nilsl,.nilsl,.nilsl,.nilsl] 0 true⟩) (rb+7) ⟨1,.cells (xG rb N) 0 true⟩) (rb+7)=⟨1,.cells (xG rb N) 0 true⟩:=by rw[ln,if_pos rfl]
  have l2:(iH (iH s1 (rb+7) ⟨1,.cells [.nilsl,.nilsl,.nilsl,.nilsl,.nilsl,.nilsl,.nilsl] 0 true⟩) (rb+7) ⟨1,.cells (xG rb N) 0 true⟩).length=rb+8:=by
   rw[jM _ _ _ (by rw[←Dl,qV,List.length_append];simp),←Dl,qV,List.length_append,Dl];rfl
  generalize iH (iH s1 (rb+7) ⟨1,.cells [.nilsl,.nilsl,.nilsl,.nilsl,.nilsl,.nilsl,.nilsl] 0 true⟩) (rb+7) ⟨1,.cells (xG rb N) 0 true⟩=s2 at*
  have O: ∀j,j<rb→iz s2 j=iz s j:=fun j hj=>by rw[gs j (by omega),←vZ,GM (by omega)]
  have gr: ∀i,i<7→iz s2 (rb+i)=⟨1,.cells (nv N fun _=>0) 0 false⟩:=fun i hi=>by rw[gs _ (by omega),←vZ,←W,A0,K7 hi]
  have k0:iz s2 0=⟨1,.cells [.i .i64 (H:Int)] 0 true⟩:=(O 0 (by omega)).trans g0
  simp(maxDischargeDepth:=6) only[qA,jm,seval,gd,iE,Ah,K,h5,h7,h9,I,V,F,iW,e1,aqa,Dl,nF,hw,GC,k0]
  generalize hD:DC pE 82 (.loop Ag) _=D
  obtain⟨f2,l2',s3,rfl,⟨rfl,hC3,hl3,qk⟩,nw⟩:=Cq Jg hD (cd3 N H rb (rb+7) 10 X 9 lJ nT iC nx mH qv hH hN ⟨by omega,by omega,by omega,by omega,by omega,by omega⟩ p.1 (fun _ _=>0) p.2 (fun h hh=>by omega) (by omega) _ _ _ (by simp only[qA,seval,K,h9]) (by simp only[qA,seval,K,I]) (by simp only[qA,seval,K,V]) (by simp only[qA,seval]) (by simp only[qA,seval]) (by simp only[qA,seval]) ((O 9 (by omega)).trans gB) (fun h hh=>(O _ (by omega)).trans (gR h hh)) ⟨k0,(O 1 (by omega)).trans g1,gA,(O 10 (by omega)).trans gT,gr,by omega,by omega⟩)
  have f14:an f2 14= .ptr .S (rb+7) 1 0:=by rw[nw 14 (by decide)];simp only[qA,seval]
  have f10:an f2 10= .ptr .S 9 1 0:=by rw[nw 10 (by decide)];simp only[qA,seval,K,I]
  have f42:an f2 42= .i .i64 (k:Int):=by rw[nw 42 (by decide)];simp only[qA,seval,F]
  obtain⟨c0,c1,cA,cT,cR,cb1,cb2⟩:=hC3
  have DD: ∀lh,Ev.stV lh s3 (.ptr .S 9 1 0) (.agg (xG rb N)) 7=some (lh,iH s3 9 ⟨1,.cells (xG rb N) 0 true⟩):=fun lh=>ajl ((qk 9 (by omega) (by omega)).trans ((O 9 (by omega)).trans gB)) rfl rb N
  have r1:0+7≤(xG rb N).length:=Nat.le_refl _
  have r2:(xG rb N).take 7=xG rb N:=rfl
  rw[show 5-k=(4-k)+1 by omega,Nj]at Y
  simp(maxDischargeDepth:=6) only[qA,jm,seval,gd,iE,f14,f10,f42,cA,r1,r2,DD,hw]
  have l4:(iH s3 9 ⟨1,.cells (xG rb N) 0 true⟩).length=rb+8:=by rw[jM _ _ _ (by omega)];omega
  exact⟨_,rb,⟨by rw[ln,if_neg (by omega)];exact c0,by rw[ln,if_neg (by omega)];exact c1,by rw[ln,if_pos rfl],by rw[ln,if_neg (by omega)];exact cT,fun i hi=>by rw[ln,if_neg (by omega)];exact cR i hi,by omega,by omega,by omega⟩,Y⟩
 ·rintro f _ s K ⟨F,rfl,p,X,hC,Y⟩
  simp only[qA,seval,gd,Ah,K,F,Int.lt_irrefl]
  exact Y▸hC.gT
end
def jn(c:Ct)(l:List Fl)(i j:Nat):Bool:=match l[i]?,l[j]? with
 |some x,some y=>MZ c x y
 |_,_=>false
theorem Pu{c:Ct}{l:List Fl}{i j:Nat}(hi:i<l.length)(D:j<l.length):jn c l i j=MZ c l[i] l[j]:=by
 unfold jn;rw[List.getElem?_eq_getElem hi,List.getElem?_eq_getElem D]
def CS(D:List b8)(r:List Nat)(c:T)(s:List b8):Prop:=(r= []∧c= .nilsl∧s=D)∨(r≠ []∧ ∃g,c= .isl .S D.length g 0 r.length 1∧s=D++ [⟨g,.cells (ints (r.map Int.ofNat)) 0 false⟩])
theorem Pv(J:Nat→Bool)(k:Nat):(List.range (k+1)).filter J=if J k then(List.range k).filter J++ [k]else(List.range k).filter J:=by
 rw[List.range_succ,List.filter_append]
 by_cases h:J k=true <;> simp[h]
theorem Nk(J:Nat→Bool)(k:Nat):((List.range k).filter J).length≤k:=by
 have:=List.length_filter_le J (List.range k)
 rwa [List.length_range]at this
theorem Si{a:List b8}{x e:b8}:iH (a++ [x]) a.length e=a++ [e]:=by
 induction a with
 |nil=>rfl
 |cons y D ih=>rw[List.cons_append,List.length_cons,sL,ih];rfl
section
variable(zT aT fT a7 a8 a9 iq iy iv:T)(c:Ct)(sd fc:List T)(l:List Fl)(hf:IsSl fT l.length fc)(hr:iA RX l fc)(hN:l.length≤1000)
include hf hr hN
theorem pc1(i:Nat)(hi:i<l.length)(Q0:List T)(V:Q0.length=l.length)(W:Q0.drop i= .nilsl::Q0.drop (i+1))(D:List b8)(fr:Fr)(lh:iw b8)(X:an fr 0= .vp (zT::aT::fT::(jz c a7 a8 a9 iq iy iv++sd)))(Y:an fr 3= .isl .L 12 1 0 l.length 1)(Z:an fr 4= .i .i64 (i:Int))(E6:an fr 19= .i .i64 (l.length:Int))(h20:an fr 20= .i .i64 0)(XS:b7 lh 12=⟨1,.cells Q0 0 true⟩):
  Lp pE 40 uz fr lh D (.ext 2) fun f I s=> ∃v,b7 I 12=⟨1,.cells (Q0.set i v) 0 true⟩∧CS D (qd l.length (jn c l) i) v s:=by
 refine kE Jk (fun k f I s=>an f 20= .i .i64 (k:Int)∧ ∃v,b7 I 12=⟨1,.cells (Q0.set i v) 0 true⟩∧CS D ((List.range k).filter fun j=>jn c l i j) v s) l.length ⟨h20,.nilsl,by
  rw[XS]
  refine congrArg (fun c=>b8.mk 1 (.cells c 0 true)) ?_
  refine List.ext_getElem (by simp) fun j h1 h2=> ?_
  rw[List.getElem_set]
  by_cases e:i=j
  ·subst e
   rw[if_pos rfl]
   have:=congrArg (fun l=>l[0]?) W
   simpa[h1]using this
  ·rw[if_neg e],.inl ⟨rfl,rfl,rfl⟩⟩ ?_ ?_
 ·rintro k f I s hk K ⟨ZP,v,o,O⟩
  have E8:i+1≤l.length:=hi
  have hg:(Q0.set i v)[i]? =some v:=by rw[List.getElem?_set_self (by omega)]
  have wD:(Q0.set i v).length=l.length:=by rw[List.length_set];exact V
  have F: ∀u,splice (Q0.set i v) i [u]=Q0.set i u:=fun u=>by rw[tR _ _ _ (by omega),List.set_set]
  have r8:8≤roomy:=by unfold roomy;omega
  have iW:(k:Int)<l.length:=by omega
  have hw:wr .i64 ((k:Int)+1)=((k+1:Nat):Int):=by rw[jw (by omega)];omega
  have U:=Xb zT aT fT a7 a8 a9 iq iy iv c sd fc l hf hr i k hi hk
  rw[←Pu hi hk]at U
  rw[Pv]
  have aFX:=Nk (jn c l i) k
  generalize (List.range k).filter (fun j=>jn c l i j)=r at*
  by_cases hb:jn c l i k=true
  ·rcases O with⟨rfl,rfl,rfl⟩|⟨hr0,g,rfl,rfl⟩
   ·simp(maxDischargeDepth:=6) only[qA,jm,seval,gd,uz,K,X,Y,Z,E6,ZP,iW,hw,U,hb,ag3,hi,E8,o,hg,wD,F,jV,iK,jx,jt,jQ,repl,r8,qV]
    exact⟨_,rfl,.inr ⟨by simp,1,rfl,rfl⟩⟩
   ·have OZ:iz (D++ [(⟨g,.cells (ints (r.map Int.ofNat)) 0 false⟩:b8)]) D.length=⟨g,.cells (ints (r.map Int.ofNat)) 0 false⟩:=by
     have:=A0 (a:=D) (b:= [(⟨g,.cells (ints (r.map Int.ofNat)) 0 false⟩:b8)]) (k:=0)
     exact this
    have hse: ∀e,iH (D++ [(⟨g,.cells (ints (r.map Int.ofNat)) 0 false⟩:b8)]) D.length e=D++ [e]:=fun e=>Si
    have Dl:r.length*1=(ints (r.map Int.ofNat)).length:=by rw[kO,List.length_map,Nat.mul_one]
    have r9:(r.length+1)*8≤roomy:=by unfold roomy;omega
    simp(maxDischargeDepth:=6) only[qA,jm,seval,gd,uz,K,X,Y,Z,E6,ZP,iW,hw,U,hb,ag3,hi,E8,o,hg,wD,F,jV,iK,jt,jR,jc,repl,OZ,hse,Dl,r9]
    exact⟨_,rfl,.inr ⟨by simp,g+1,by simp,by simp[ints]⟩⟩
  ·simp(maxDischargeDepth:=6) only[qA,jm,seval,gd,uz,K,X,Y,Z,E6,ZP,iW,hw,U,hb,ag3,hi,E8,o,hg,wD,F]
   exact⟨v,rfl,O⟩
 ·rintro f I s K ⟨ZP,v,o,O⟩
  simp only[qA,seval,gd,uz,K,E6,ZP,Int.lt_irrefl]
  exact⟨v,o,O⟩
def CO(s:List b8)(v:T)(r:List Nat):Prop:=(r= []∧v= .nilsl)∨r≠ []∧ ∃k g,v= .isl .S k g 0 r.length 1∧k<s.length∧iz s k=⟨g,.cells (ints (r.map Int.ofNat)) 0 false⟩
omit hf hr hN in
theorem CO.mono{s:List b8}{v:T}{r:List Nat}(h:CO s v r)(x:List b8):CO (s++x) v r:=by
 rcases h with h|⟨D,k,g,F,I,K⟩
 ·exact .inl h
 ·exact .inr ⟨D,k,g,F,by rw[List.length_append];omega,by rw[GM I];exact K⟩
def Sj(s:List b8):List T→List (List Nat)→Prop
 | [],[]=>True
 |v::D,r::rs=>CO s v r∧Sj s D rs
 |_,_=>False
omit hf hr hN in
theorem Sj.mono{s:List b8}(x:List b8): ∀{D:List T} {rs:List (List Nat)},Sj s D rs→Sj (s++x) D rs
 | [],[],_=>trivial
 |_::_,_::_,h=>⟨h.1.mono x,h.2.mono x⟩
omit hf hr hN in
theorem Sj.snoc{s:List b8}{v:T}{r:List Nat}(h:CO s v r): ∀{D:List T} {rs:List (List Nat)},Sj s D rs→Sj s (D++ [v]) (rs++ [r])
 | [],[],_=>⟨h,trivial⟩
 |_::_,_::_,g=>⟨g.1,g.2.snoc h⟩
omit hf hr hN in
theorem Sj.len{s:List b8}: ∀{D:List T} {rs:List (List Nat)},Sj s D rs→D.length=rs.length
 | [],[],_=>rfl
 |_::_,_::_,g=>by rw[List.length_cons,List.length_cons,g.2.len]
def ZQ(r:List Nat):T:=if r= []then .nilsl else .sl (ints (r.map Int.ofNat)) r.length false
omit hf hr hN in
theorem CO.fz{s:List b8}{v:T}{r:List Nat}{lh:iw b8}{m:Nat}(h:CO s v r): ∃us,(fz false (m+1) v).run (St.mk .nil lh s).get s.length=some (ZQ r,us):=by
 rcases h with⟨rfl,rfl⟩|⟨h0,k,g,rfl,h2,h3⟩
 ·exact⟨_,rfl⟩
 ·unfold Ev.fz
  have OZ:(St.mk .nil lh s).get .S k=iz s k:=rfl
  simp only[Bool.false_and,Bool.false_eq_true,if_false,Q.run,OZ,h3,if_true]
  have D:(ints (r.map Int.ofNat)).length=r.length:=by rw[kO,List.length_map]
  rw[if_pos (by omega)]
  refine⟨_,congrArg some (Prod.ext ?_ rfl)⟩
  show T.sl _ _ _=_
  rw[List.drop_zero,Nat.mul_one,List.take_of_length_le (by omega)]
  unfold ZQ
  rw[if_neg h0]
omit hf hr hN in
theorem Sj.fz{s:List b8}{lh:iw b8}{m:Nat}: ∀{D:List T} {rs:List (List Nat)},Sj s D rs→ ∃us,(ja (Ev.fz false (m+1)) D).run (St.mk .nil lh s).get s.length=some (rs.map ZQ,us)
 | [],[],_=>⟨_,rfl⟩
 |v::D,r::rs,h=>by
  obtain⟨K,F⟩:=h.1.fz (lh:=lh) (m:=m)
  obtain⟨O,I⟩:=h.2.fz (lh:=lh) (m:=m)
  simp only[ja,jh,F,I,Option.bind_some,Q.run,List.map_cons]
  exact⟨_,rfl⟩
theorem pc2(fr:Fr)(lh:iw b8)(X:an fr 0= .vp (zT::aT::fT::(jz c a7 a8 a9 iq iy iv++sd)))(Y:an fr 3= .isl .L 12 1 0 l.length 1)(Z:an fr 14= .i .i64 (l.length:Int))(q9:an fr 15= .i .i64 0)(XS:b7 lh 12=⟨1,.cells (List.replicate l.length .nilsl) 0 true⟩):
  Lp pE 40 Aj fr lh [] (.ext 0) fun f K s=> ∃F,b7 K 12=⟨1,.cells F 0 true⟩∧Sj s F ((List.range l.length).map (qd l.length (jn c l))):=by
 refine kE Jl (fun k f K s=>an f 15= .i .i64 (k:Int)∧ ∃F,b7 K 12=⟨1,.cells (F++List.replicate (l.length-k) .nilsl) 0 true⟩∧Sj s F ((List.range k).map (qd l.length (jn c l)))) l.length ⟨q9,[],by rw[XS];rfl,trivial⟩ ?_ ?_
 ·rintro k f K s hk O ⟨I,F,o,U⟩
  have iW:(k:Int)<l.length:=by omega
  have hw:wr .i64 ((k:Int)+1)=((k+1:Nat):Int):=by rw[jw (by omega)];omega
  have uG:=U.len
  rw[List.length_map,List.length_range]at uG
  have mF:lenI (T.isl .L 12 1 0 l.length 1)=some (.i .i64 (l.length:Int)):=rfl
  have mG:(F++List.replicate (l.length-k) T.nilsl).length=l.length:=by rw[List.length_append,List.length_replicate];omega
  have V:(F++List.replicate (l.length-k) T.nilsl).drop k= .nilsl::(F++List.replicate (l.length-k) T.nilsl).drop (k+1):=by
   rw[show k=F.length from uG.symm,List.drop_left,show F.length+1=F.length+1 from rfl,List.drop_append,List.drop_of_length_le (by omega),List.nil_append,show l.length-F.length=(l.length-F.length-1)+1 by omega,List.replicate_succ,show F.length+1-F.length=1 by omega]
   rfl
  simp(maxDischargeDepth:=6) only[qA,jm,seval,gd,Aj,O,X,Y,Z,I,iW,hw,mF]
  generalize hD:DC pE 40 (.loop uz) _=D
  obtain⟨f2,l2,s2,rfl,⟨v,o2,hS⟩,nw⟩:=Cq Jk hD (pc1 zT aT fT a7 a8 a9 iq iy iv c sd fc l hf hr hN k hk (F++List.replicate (l.length-k) .nilsl) mG V s _ _ (by simp only[qA,seval,O,X]) (by simp only[qA,seval,O,Y]) (by simp only[qA,seval]) (by simp only[qA,seval]) (by simp only[qA,seval]) o)
  have W:an f2 15= .i .i64 (k:Int):=by rw[nw 15 (by decide)];simp only[qA,seval,I]
  simp(maxDischargeDepth:=6) only[qA,jm,seval,gd,W,hw]
  refine⟨F++ [v], ?_, ?_⟩
  ·rw[o2]
   refine congrArg (fun c=>b8.mk 1 (.cells c 0 true)) ?_
   rw[List.set_append,if_neg (by omega),show k-F.length=0 by omega,show l.length-k=(l.length-(k+1))+1 by omega,List.replicate_succ,List.set_cons_zero,List.append_assoc]
   rfl
  ·rw[List.range_succ,List.map_append]
   rcases hS with⟨h1,rfl,rfl⟩|⟨h1,g,rfl,rfl⟩
   ·exact U.snoc (.inl ⟨h1,rfl⟩)
   ·exact(U.mono _).snoc (.inr ⟨h1,_,g,rfl,by simp,A0 (k:=0)⟩)
 ·rintro f K s O ⟨I,F,o,U⟩
  simp only[qA,seval,gd,Aj,O,Z,I,Int.lt_irrefl]
  rw[Nat.sub_self,List.replicate_zero,List.append_nil]at o
  exact⟨F,o,U⟩
def Sk(N:Nat)(J:Nat→Nat→Bool):T:= .sl (((List.range N).map (qd N J)).map ZQ) N false
theorem K8: ∃s,be pE 57 [.vp (zT::aT::fT::(jz c a7 a8 a9 iq iy iv++sd))] []=some (Sk l.length (jn c l),s):=by
 have U:l.length*24≤roomy:=by unfold roomy;omega
 have V:l.length≤roomy:=by unfold roomy;omega
 have W:=hf.lenI
 have Ta:repl [T.nilsl] l.length=List.replicate l.length .nilsl:=by
  generalize l.length=n
  induction n with
  |zero=>rfl
  |succ n ih=>rw[repl,ih,List.replicate_succ];rfl
 have F:lenI (T.isl .L 12 1 0 l.length 1)=some (.i .i64 (l.length:Int)):=rfl
 rw[il Z9 (by simp[c57])]
 simp(maxDischargeDepth:=6) only[qA,seval,c57,W,F,Ta,U,V]
 generalize X:DC pE 40 (.loop Aj) _=D
 obtain⟨Y,K,Z,rfl,⟨vs,o2,O⟩,nw⟩:=Cq Jl X (pc2 zT aT fT a7 a8 a9 iq iy iv c sd fc l hf hr hN _ _ (by simp only[qA,seval]) (by simp only[qA,seval]) (by simp only[qA,seval]) (by simp only[qA,seval]) (by simp only[qA,seval]))
 have f3:an Y 3= .isl .L 12 1 0 l.length 1:=by rw[nw 3 (by decide)];simp only[qA,seval]
 have uG:=O.len
 rw[List.length_map,List.length_range]at uG
 obtain⟨us,e⟩:=O.fz (lh:=K) (m:=6)
 have I: ∃us,fzV K Z false (.isl .L 12 1 0 l.length 1)=some (Sk l.length (jn c l),us):=by
  rw[Hz,o2]
  unfold Rh;dsimp only
  rw[if_pos ⟨rfl,by omega⟩,List.drop_zero,Nat.mul_one,List.take_of_length_le (by omega),e]
  exact⟨_,rfl⟩
 obtain⟨us2,e2⟩:=I
 simp(maxDischargeDepth:=6) only[qA,seval,f3,e2]
 exact⟨_,rfl⟩
end
def XT(N H:Nat)(iC:Nat→Bool)(nx:Nat→List Nat):Int:=(Nj N H iC nx 5 (Eg H iC (List.range N) (fun _ _=>0,0))).2
def oB(ops:List Int)(f:Nat):Bool:=decide ((f:Int)∈ops)
theorem XU(N:Nat)(ops:List Int)(f:Nat)(hf:f<N): ∃q,∀kk,lR (.sl (xQ (inB N ops)) N false) (.i kk (f:Int)) 1=some (.vp (.b (oB ops f)::q)):=by
 refine⟨(xQ (inB N ops)).drop (f+1),fun kk=> ?_⟩
 rw[oc,if_pos ⟨by omega,by simpa using hf,by rw[zy];simp;omega⟩,Int.toNat_natCast,Nat.mul_one,List.drop_eq_getElem_cons (by rw[zy];exact hf)]
 refine congrArg some (congrArg T.vp (congrArg (· ::_) ?_))
 simp[xQ,inB,oB]
theorem XV(N:Nat)(J:Nat→Nat→Bool)(hN:N≤1000)(f:Nat)(hf:f<N): ∃gT q,(∀kk,lR (Sk N J) (.i kk (f:Int)) 1=some (.vp (gT::q)))∧IsSl gT (qd N J f).length (ints ((qd N J f).map Int.ofNat))∧(qd N J f).length≤1000∧ ∀g∈qd N J f,g<N:=by
 have hl:(((List.range N).map (qd N J)).map ZQ).length=N:=by simp
 refine⟨ZQ (qd N J f),(((List.range N).map (qd N J)).map ZQ).drop (f+1),fun kk=> ?_, ?_, ?_,fun g D=>List.mem_range.1 (List.mem_filter.1 D).1⟩
 ·unfold Sk
  rw[oc,if_pos ⟨by omega,by simpa using hf,by rw[hl];simp;omega⟩,Int.toNat_natCast,Nat.mul_one,List.drop_eq_getElem_cons (by rw[hl];exact hf)]
  refine congrArg some (congrArg T.vp (congrArg (· ::_) ?_))
  simp
 ·unfold ZQ
  split
  ·rename_i h;rw[h];exact .inl ⟨rfl,rfl,rfl⟩
  ·exact .inr ⟨_,rfl⟩
 ·exact Nat.le_trans (Nk (J f) N) hN
section
variable(zT aT fT a7 a8 a9 iq iy iv:T)(c:Ct)(sd fc:List T)(l:List Fl)(hf:IsSl fT l.length fc)(hr:iA RX l fc)(hN:l.length≤1000)
include hf hr hN
theorem acN(ops:List Int)(oT:T)(ho:IsSl oT ops.length (ints ops))(hl:ops.length≤1000)(jB: ∀x∈ops,0≤x∧x<(l.length:Int))(H:Nat)(hH:H≤6):
  ∃s,be pE 55 [.vp (zT::aT::fT::(jz c a7 a8 a9 iq iy iv++sd)),oT,.i .i64 (H:Int)] []=some (.i .i64 (XT l.length H (oB ops) (qd l.length (jn c l))),s):=by
 have mF:=hf.lenI
 have X:=ho.froz
 have K9:=ho.froz1
 have O:=Ee zT aT fT (jz c a7 a8 a9 iq iy iv++sd) l.length mF hN ops oT ho hl jB
 obtain⟨s0,e2⟩:=K8 zT aT fT a7 a8 a9 iq iy iv c sd fc l hf hr hN
 have e3:=fun sh=>atr l.length hN sh
 have mH:=XU l.length ops
 have qv:=XV l.length (jn c l) hN
 have z1:froz1 (.sl (xQ (inB l.length ops)) l.length false)=true:=rfl
 have z2:froz1 (Sk l.length (jn c l))=true:=rfl
 have z3:froz (Sk l.length (jn c l))=true:=rfl
 have z4:froz (.sl (xQ (inB l.length ops)) l.length false)=true:=rfl
 have z5:cellsOf (.sl (xQ (inB l.length ops)) l.length false)= [.sl (xQ (inB l.length ops)) l.length false]:=rfl
 have z6:noTup (.sl (xQ (inB l.length ops)) l.length false)=true:=rfl
 generalize hI:T.sl (xQ (inB l.length ops)) l.length false=lJ at*
 generalize hX:Sk l.length (jn c l)=nT at*
 rw[il apz (by simp[c55])]
 have Y: ∀x:b8,List.replicate 7 x= [x,x,x,x,x,x,x]:=fun _=>rfl
 have nF: ∀(lh:iw b8) (Z O r:b8),Ev.stV lh [Z,O,r,r,r,r,r,r,r,⟨1,.cells [.nilsl,.nilsl,.nilsl,.nilsl,.nilsl,.nilsl,.nilsl] 0 true⟩] (.ptr .S 9 1 0) (.agg (xG 2 l.length)) 7=some (lh,[Z,O,r,r,r,r,r,r,r,⟨1,.cells (xG 2 l.length) 0 true⟩]):=fun lh Z O r=>ajl rfl rfl 2 l.length
 simp(maxDischargeDepth:=6) only[qA,jm,j2,Y,seval,iE,c55,mF,O,e2,e3,axv,axy,aqa,X,K9,z1,z2,z3,z4,z5,z6,nF]
 generalize W:DC pE 82 (.loop Ai) _=D
 obtain⟨K,l2,s2,rfl,⟨rfl,hC,wD,qk⟩,I⟩:=Cq Ji W (cd0 l.length H 2 9 10 lJ (oB ops) mH hH hN ⟨by omega,by omega,by omega,by omega,by omega,by omega⟩ (fun _ _=>0) 0 _ _ _ (by simp only[qA,seval]) (by simp only[qA,seval]) (by simp only[qA,seval]) (by simp only[qA,seval]) ⟨rfl,rfl,rfl,rfl,fun i hi=>by
  have:i=0∨i=1∨i=2∨i=3∨i=4∨i=5∨i=6:=by omega
  rcases this with rfl|rfl|rfl|rfl|rfl|rfl|rfl <;> rfl,by simp,by simp⟩)
 have f5:an K 5= .ptr .S 0 1 0:=by rw[I 5 (by decide)];simp only[qA,seval]
 have f7:an K 7= .i .i64 (l.length:Int):=by rw[I 7 (by decide)];simp only[qA,seval]
 have f9:an K 9=nT:=by rw[I 9 (by decide)];simp only[qA,seval]
 have U:an K 10= .ptr .S 9 1 0:=by rw[I 10 (by decide)];simp only[qA,seval]
 have F:an K 11= .ptr .S 10 1 0:=by rw[I 11 (by decide)];simp only[qA,seval]
 have V:an K 12= .fn 96 [] [.ptr .S 1 1 0,.ptr .S 10 1 0,.ptr .S 0 1 0]:=by rw[I 12 (by decide)];simp only[qA,seval]
 clear I W
 simp(maxDischargeDepth:=6) only[qA,jm,seval,iE,f5,f7,f9,U,F,V]
 generalize W:DC pE 82 (.loop Ah) _=D
 obtain⟨c0,c1,cA,cT,cR,cb1,cb2⟩:=hC
 have Fh:s2.length=11:=wD
 obtain⟨f3,l3,s3,rfl,⟨rfl,hT⟩,pr3⟩:=Cq Jh W (cd4 l.length H lJ nT (oB ops) (qd l.length (jn c l)) mH qv hH hN (Eg H (oB ops) (List.range l.length) (fun _ _=>0,0)) _ _ _ (by simp only[qA,seval,f5]) (by simp only[qA,seval,f7]) (by simp only[qA,seval,f9]) (by simp only[qA,seval,U]) (by simp only[qA,seval,V]) (by simp only[qA,seval]) ⟨c0,c1,cA,cT,cR,by omega,by omega,.inl rfl⟩)
 have F:an f3 11= .ptr .S 10 1 0:=by rw[pr3 11 (by decide)];simp only[qA,seval,F]
 simp(maxDischargeDepth:=6) only[qA,jm,seval,iE,F,hT]
 exact⟨_,rfl⟩
end
def wh(n:Nat):Int:=wr .i64 (n:Int)
theorem wrap64(n:Int):IntKind.i64.wrap n=if 9223372036854775808≤n%18446744073709551616 then n%18446744073709551616-18446744073709551616 else n%18446744073709551616:=by
 unfold IntKind.wrap
 simp[IntKind.bits,IntKind.signed]
theorem Nl(n:Nat): ∃k:Int,wh n=n+18446744073709551616*k∧ -9223372036854775808≤wh n∧wh n<9223372036854775808:=by
 unfold wh
 rw[Dj,wrap64]
 split
 ·exact⟨-((n:Int)/18446744073709551616)-1,by omega,by omega,by omega⟩
 ·exact⟨-((n:Int)/18446744073709551616),by omega,by omega,by omega⟩
theorem XW{a b:Int}(h: ∃k:Int,a=b+18446744073709551616*k):wr .i64 a=wr .i64 b:=by
 obtain⟨k,rfl⟩:=h
 rw[Dj,Dj,wrap64,wrap64,show(b+18446744073709551616*k)%18446744073709551616=b%18446744073709551616 by omega]
theorem Cu(a b:Nat):wr .i64 (wh a+wh b)=wh (a+b):=by
 obtain⟨k,h,_⟩:=Nl a
 obtain⟨m,D,_⟩:=Nl b
 exact XW ⟨k+m,by rw[h,D];push_cast;omega⟩
theorem uW:wh 0=0:=by decide
theorem acO:wh 1=1:=by decide
theorem uX{a b:Nat}(h:wh b=0):wh (a+b)=wh a:=by
 obtain⟨k,D,_⟩:=Nl b
 exact XW ⟨-k,by rw[h]at D;push_cast;omega⟩
section
variable(N H:Nat)(J:Nat→Nat→Bool)(iC:Nat→Bool)
def Rl(p:(Nat→Nat→Int)×Int)(q:(Nat→Nat→Nat)×Nat):Prop:=(∀h g,p.1 h g=wh (q.1 h g))∧p.2=wh q.2
theorem acP(h f w:Nat)(p:(Nat→Nat→Int)×Int)(q:(Nat→Nat→Nat)×Nat)(V:Rl p q):Rl (xH H (iC f) h f (wh w) p.1,Ef H (iC f) h (wh w) p.2) (Ed H iC h f w q.1,q.2+FI H iC h f w):=by
 obtain⟨D,F⟩:=V
 constructor
 ·intro I g
  show xH _ _ _ _ _ _ _ _=wh (Ed _ _ _ _ _ _ _ _)
  unfold xH Ed
  by_cases K:g=f
  ·subst K
   by_cases O:I=h
   ·subst O
    cases hi:iC g <;> simp[ou,hi,D,Cu]
   ·by_cases U:I=h+1∧h<H
    ·simp[U,D,Cu]
    ·simp[O,U,D]
  ·simp[K,D]
 ·show Ef _ _ _ _ _=wh (q.2+FI _ _ _ _ _)
  unfold Ef FI
  by_cases hl:h<H
  ·cases hi:iC f <;> simp[hl,F,Cu,ou,Nat.add_assoc]
  ·cases hi:iC f <;> simp[hl,F,Cu,ou]
theorem H8(h w:Nat): ∀(D:List Nat) (p:(Nat→Nat→Int)×Int) (q:(Nat→Nat→Nat)×Nat),Rl p q→Rl (BZ H iC h (wh w) D p) (ZO H iC h w D q.1,tnG H iC h w D q.2)
 | [],p,q,F=>F
 |g::D,p,q,F=>H8 h w D _ _ (acP H iC h g w p q F)
theorem XX(h w:Nat)(D:wh w=0)(F:List Nat)(p:(Nat→Nat→Int)×Int)(q:(Nat→Nat→Nat)×Nat)(O:Rl p q):Rl p (ZO H iC h w F q.1,tnG H iC h w F q.2):=by
 induction F generalizing q with
 |nil=>exact O
 |cons g F ih=>
  refine ih (Ed H iC h g w q.1,q.2+FI H iC h g w) ⟨fun U X=> ?_, ?_⟩
  ·rw[O.1]
   show _=wh (Ed _ _ _ _ _ _ _ _)
   unfold Ed
   have I: ∀b,wh (ou b*w)=0:=fun b=>by cases b <;> simp[ou,D,uW]
   by_cases V:X=g
   ·rw[if_pos V,←Nat.add_assoc]
    by_cases W:U=h
    ·rw[if_pos W]
     by_cases K:U=h+1∧h<H
     ·omega
     ·rw[if_neg K,Nat.add_zero,uX (I _)]
    ·rw[if_neg W,Nat.add_zero]
     by_cases K:U=h+1∧h<H
     ·rw[if_pos K,uX D]
     ·rw[if_neg K,Nat.add_zero]
   ·rw[if_neg V,Nat.add_zero]
  ·rw[O.2]
   show _=wh (_+FI _ _ _ _ _)
   unfold FI
   have I: ∀b,wh (ou b*w)=0:=fun b=>by cases b <;> simp[ou,D,uW]
   rw[←Nat.add_assoc]
   by_cases hl:h<H
   ·rw[if_pos hl,uX D,uX (I _)]
   ·rw[if_neg hl,Nat.add_zero,uX (I _)]
theorem GN(nx:Nat→List Nat)(h:Nat)(r:Nat→Int): ∀(l:List Nat) (f:Nat) (p:(Nat→Nat→Int)×Int),xI H iC nx h r (l++ [f]) p=if r f=0 then xI H iC nx h r l p else BZ H iC h (r f) (nx f) (xI H iC nx h r l p)
 | [],f,p=>rfl
 |x::l,f,p=>by rw[List.cons_append,xI,xI,GN nx h r l f]
theorem Pw(h:Nat)(r:Nat→Int)(D:Nat→Nat→Nat)(hr: ∀f,r f=wh (D h f))(p:(Nat→Nat→Int)×Int)(q:(Nat→Nat→Nat)×Nat)(F:Rl p q): ∀k,Rl (xI H iC (qd N J) h r (List.range k) p) (rnF N H J iC D h k q.1,tnF N H J iC D h k q.2)
 |0=>F
 |k+1=>by
  rw[List.range_succ,GN,hr]
  have ih:=Pw h r D hr p q F k
  split
  ·rename_i I
   exact XX H iC h _ I _ _ (_,_) ih
  ·exact H8 H iC h _ _ _ (_,_) ih
theorem GO(nx:Nat→List Nat)(D:Nat→Nat→Int): ∀(l:List Nat) (h:Nat) (p:(Nat→Nat→Int)×Int),AZ N H iC nx D (l++ [h]) p=xI H iC nx h (D h) (List.range N) (AZ N H iC nx D l p)
 | [],h,p=>rfl
 |x::l,h,p=>by rw[List.cons_append,AZ,AZ,GO nx D l h]
theorem Px(D:Nat→Nat→Int)(XY:Nat→Nat→Nat)(I: ∀h f,D h f=wh (XY h f))(t:Int)(F:Nat)(K:t=wh F): ∀k,Rl (AZ N H iC (qd N J) D (List.range k) (fun _ _=>0,t)) (XJ N H J iC XY k,tnH N H J iC XY k F)
 |0=>⟨fun _ _=>uW.symm,K⟩
 |k+1=>by
  rw[List.range_succ,GO]
  exact Pw N H J iC k (D k) XY (I k) _ (_,_) (Px D XY I t F K k) N
theorem Py: ∀(l:List Nat) (p:(Nat→Nat→Int)×Int),Eg H iC l p=BZ H iC 0 1 l p
 | [],p=>rfl
 |f::l,p=>by rw[Eg,BZ,Py l]
def rN(p:(Nat→Nat→Nat)×Nat):(Nat→Nat→Nat)×Nat:=(XJ N H J iC p.1 (H+1),tnH N H J iC p.1 (H+1) p.2)
def rsN:Nat→(Nat→Nat→Nat)×Nat→(Nat→Nat→Nat)×Nat
 |0,p=>p
 |k+1,p=>rsN k (rN N H J iC p)
theorem Pz: ∀(k:Nat) (p:(Nat→Nat→Int)×Int) (q:(Nat→Nat→Nat)×Nat),Rl p q→Rl (Nj N H iC (qd N J) k p) (rsN N H J iC k q)
 |0,p,q,h=>h
 |k+1,p,q,h=>Pz k _ _ (Px N H J iC p.1 q.1 h.1 p.2 q.2 h.2 (H+1))
def wi(c:Nat→Nat→Nat→Nat):Nat→Nat
 |0=>0
 |k+1=>wi c k+LZ N H (fun h g=>c (k+1) g h)
theorem GP{n m:Nat→Nat→Nat}(h: ∀D g,D≤H→g<N→n D g=m D g):LZ N H n=LZ N H m:=
 ju fun D I=>ju fun g F=>h D g (by omega) F
theorem ajn(m k:Nat)(q:(Nat→Nat→Nat)×Nat)(V: ∀h g,h≤H→g<N→q.1 h g=cA N J iC (m+1) g h)(O:q.2=wi N H (cA N J iC) (m+1)):(rsN N H J iC k q).2=wi N H (cA N J iC) (m+k+1):=by
 induction k generalizing m q with
 |zero=>exact O
 |succ k ih=>
  have e: ∀h g,h≤H→g<N→XJ N H J iC q.1 (H+1) h g=cA N J iC (m+2) g h:=fun h g F I=>by
   rw[XM N H J iC q.1 h g F I]
   show FH iC g _ h=FH iC g _ h
   unfold FH
   have U: ∀D,D≤H→(Sm N fun f=>ou (J f g)*q.1 D f)=Sm N fun f=>ou (J f g)*cA N J iC (m+1) f D:=fun D K=>ju fun f hf=>by rw[V D f K hf]
   dsimp only
   rw[U h F]
   congr 1
   cases h with
   |zero=>rfl
   |succ h=>exact U h (by omega)
  rw[rsN,ih (m+1) (rN N H J iC q) (fun h g F I=>e h g F I) ?_]
  ·rw[show m+1+k+1=m+(k+1)+1 by omega]
  ·show tnH N H J iC q.1 (H+1) q.2=_
   rw[XO N H J iC q.1 q.2 (H+1) (Nat.le_refl _),O,GP N H e]
   rfl
theorem acQ:XT N H iC (qd N J)=wh (wi N H (cB N J iC) 6):=by
 unfold XT
 rw[Py]
 have K:Rl ((fun _ _=>0,0):(Nat→Nat→Int)×Int) ((fun _ _=>0,0):(Nat→Nat→Nat)×Nat):=⟨fun _ _=>uW.symm,uW.symm⟩
 have F:=H8 H iC 0 1 (List.range N) _ _ K
 rw[acO]at F
 rw[(Pz N H J iC 5 _ _ F).2]
 have I: ∀h g,h≤H→g<N→ZO H iC 0 1 (List.range N) (fun _ _=>0) h g=cA N J iC 1 g h:=fun h g U D=>by
  rw[Nh,AY D]
  show _=FH iC g uU h
  unfold FH
  rcases h with _|_|h
  ·simp[uU,sf]
  ·have:0<H:=by omega
   simp[uU,sf,this]
  ·simp[uU,sf]
 have O:tnG H iC 0 1 (List.range N) 0=wi N H (cA N J iC) 1:=by
  have:=Ni N H iC 0 1 (Nat.zero_le _) (List.range N) (fun _ _=>0) 0 fun g D=>List.mem_range.1 D
  rw[GP N H I,show LZ N H (fun _ _=>0)=0 by unfold LZ;simp only[pv],Nat.add_zero]at this
  rw[this]
  rfl
 rw[ajn N H J iC 0 5 (_,_) I O]
 congr 1
 have: ∀k,wi N H (cA N J iC) k=wi N H (cB N J iC) k:=by
  intro k
  induction k with
  |zero=>rfl
  |succ k ih=>
   rw[wi,wi,ih]
   congr 1
   exact ju fun h _=>cAB N J iC k h
 exact this _
end
def Eh(N:Nat):Option Int→List Int→Int
 |_,[]=>0
 |p,x::l=>if 0≤x∧x<(N:Int)then match p with
    |some q=>if x≤q then 8 else Eh N (some x) l
    |none=>Eh N (some x) l
  else 6
def Sl(l:List Int)(k:Nat):Option Int:=if k=0 then none else l[k-1]?
theorem Sn(l:List Int)(k:Nat)(hk:k<l.length):Sl l (k+1)=some l[k]:=by
 unfold Sl;rw[if_neg (by omega),Nat.add_sub_cancel,List.getElem?_eq_getElem hk]
theorem XZ(l:List Int)(k:Nat)(hk:k<l.length)(D:k≠0):Sl l k=some l[k-1]:=by
 unfold Sl;rw[if_neg D,List.getElem?_eq_getElem (by omega)]
theorem Ei(N:Nat)(p:Option Int)(x:Int)(l:List Int):Eh N p (x::l)=if 0≤x∧x<(N:Int)then(match p with|some q=>if x≤q then 8 else Eh N (some x) l|none=>Eh N (some x) l)else 6:=by cases p <;> rfl
theorem acR(N:Nat)(p:Option Int):Eh N p []=0:=by cases p <;> rfl
section
variable(zT aT fT:T)(r fc:List T)(N:Nat)(hf:IsSl fT N fc)(hN:N≤1000)(ops:List Int)(oT:T)(ho:IsSl oT ops.length (ints ops))(hl:ops.length≤1000)
include hf hN ho hl
theorem azP(fr:Fr)(lh:iw b8)(sh:List b8)(h0:an fr 0= .vp (zT::aT::fT::r))(h1:an fr 1=oT)(h9:an fr 9=oT)(F:an fr 10= .i .i64 (ops.length:Int))(V:an fr 11= .i .i64 0):
  xl pE 38 zW fr lh sh 0 6 (Eh N none ops) (fun W X=>X=sh):=by
 have _:=hN
 refine kj I0 (fun k f W X=>an f 11= .i .i64 (k:Int)∧X=sh∧Eh N none ops=Eh N (Sl ops k) (ops.drop k)) ops.length ⟨V,rfl,rfl⟩ ?_ ?_
 ·rintro k f W _ hk I ⟨D,rfl,K⟩
  have iW:(k:Int)<ops.length:=by omega
  have hw:wr .i64 ((k:Int)+1)=((k+1:Nat):Int):=by rw[jw (by omega)];omega
  have U:=fun kk=>ho.ia (sz:=1) (k:=k) (kk:=kk) (by rw[kO];omega) hk
  simp only[Nat.mul_one]at U
  rw[oQ ops k hk]at U
  have Y:=kq (W9 zT aT fT r fc N hf ops[k])
  simp only[decide_eq_true_eq]at Y
  rw[List.drop_eq_getElem_cons hk,Ei]at K
  rw[Sn ops k hk]
  by_cases O:k=0
  ·subst O
   have Z:Sl ops 0=none:=rfl
   rw[Z]at K
   have xE: ∀kk,lR oT (.i kk 0) 1=some (.vp (.i .i64 ops[0]::(ints ops).drop (0+1))):=fun kk=>U kk
   have azQ:an f 11= .i .i64 0:=D
   have LX:(0:Int)<ops.length:=iW
   simp(maxDischargeDepth:=6) only[qB,seval,gd,zW,I,h0,h1,h9,F,azQ,LX,xE,Y,agT]
   clear I
   grind
  ·rw[XZ ops k hk O]at K
   have FF:=fun kk=>ho.ia (sz:=1) (k:=k-1) (kk:=kk) (by rw[kO];omega) (by omega)
   simp only[Nat.mul_one]at FF
   rw[oQ ops (k-1) (by omega)]at FF
   have GC:=tQ (k:=k) (by omega) (by omega)
   have hgt:(0:Int)<(k:Int):=by omega
   simp(maxDischargeDepth:=6) only[qB,seval,gd,zW,I,h0,h1,h9,F,D,iW,hw,GC,hgt,U,FF,Y,agT]
   clear I
   grind
 ·rintro f W _ I ⟨D,rfl,K⟩
  rw[List.drop_length,acR]at K
  simp only[qB,seval,gd,zW,I,F,D,Int.lt_irrefl,K]
theorem ajo(H:Int):be pE 24 [.vp (zT::aT::fT::r),oT,.i .i64 H] []=some (.i .i64 (if Eh N none ops=0 then(if H<0∨6<H then 5 else 0)else Eh N none ops),[]):=by
 have D:=fun fr lh sh=>azP zT aT fT r fc N hf hN ops oT ho hl fr lh sh
 have F:=ho.lenI
 rw[il ao9 (by simp[c24])]
 simp(maxDischargeDepth:=6) only[qB,seval,c24,I0,F,D]
 clear D
 grind
end
end Go.Proofs.YtcpceiclnbmgiaaGreat
