/- Walks of functions of the program and of the reference, and their plain laws, part 16. Conditions: the theorems' own. -/
import Derived.Test.YtjniffjppoklpaaGreatM15
import Derived.KernelRfl
set_option maxRecDepth 100000
set_option linter.unusedSimpArgs false
set_option linter.unusedVariables false
set_option maxHeartbeats 16000000
namespace Go.Proofs.YtjniffjppoklpaaGreat
open Go Go.Ev
theorem amz{lh:iL iy}{sh:List iy}{k:Nat}{cs:List T}(E:iM sh k=⟨1,.cells cs 0 true⟩)(F:cs.length=7)(D N:Nat):Ev.stV lh sh (.ptr .S k 1 0) (.agg (zf D N)) 7=some (lh,iR sh k ⟨1,.cells (zf D N) 0 true⟩):=by
 rw[yR (by rfl) E,vt,if_pos ⟨rfl,rfl,rfl,Nat.le_refl _,by omega⟩]
 refine congrArg (fun c=>some (lh,iR sh k ⟨1,.cells c 0 true⟩)) ?_
 match cs,F with
 | [_,_,_,_,_,_,_],_=>rfl
theorem av8(n:Nat)(h:n≤1000)(sh:List iy):be pE 41 [.i .i64 (n:Int)] sh=some (.agg (zf sh.length n),sh++List.replicate 7 ⟨1,.cells (kH n fun _=>0) 0 false⟩):=by
 rw[amw n h sh,show repl [T.i .i64 0] n=kH n fun _=>0 from ?_]
 ·rfl
 ·clear h
  induction n with
  |zero=>rfl
  |succ n ih=>
   rw[repl,ih]
   unfold kH
   rw[List.range_succ_eq_map,List.map_cons,List.map_map]
   rfl
theorem G6{E:Env}{n:Nat}{a:iA}{m:Nat}(F:lO (jU (.loop a))=m){fr:Fr}{lh:iL iy}{sh:List iy}{D:Option (Out×St)}(I:DC E n (.loop a) ⟨fr,lh,sh⟩=D){o:Out}{P:Fr→iL iy→List iy→Prop}(h:Lp E n a fr lh sh o P):
  ∃f l s,D=some (o,⟨f,l,s⟩)∧P f l s∧ ∀j,(m >>> j)%2=0→an f j=an fr j:=
 ⟨_,_,_,I.symm.trans h.1,h.2,fun j K=>HJ (by rw[F];exact K)⟩
theorem uw{a b:List iy}{k:Nat}(h:k<a.length):iM (a++b) k=iM a k:=by
 induction a generalizing k with
 |nil=>simp at h
 |cons x xs ih=>
  cases k with
  |zero=>rfl
  |succ k=>rw[List.cons_append,tV,tV,ih (by simpa using h)]
theorem ux{a b:List iy}{k:Nat}:iM (a++b) (a.length+k)=iM b k:=by
 induction a with
 |nil=>rw[List.nil_append,List.length_nil,Nat.zero_add]
 |cons x xs ih=>rw[List.cons_append,List.length_cons,show xs.length+1+k=(xs.length+k)+1 by omega,tV,ih]
theorem M9{e:iy}: ∀{n i:Nat},i<n→iM (List.replicate n e) i=e
 |n+1,0,_=>rfl
 |n+1,i+1,h=>by rw[List.replicate_succ,tV,M9 (by omega)]
def rnd(N H:Nat)(iQ:Nat→Bool)(nx:Nat→List Nat)(p:(Nat→Nat→Int)×Int):(Nat→Nat→Int)×Int:=Cb N H iQ nx p.1 (List.range (H+1)) (fun _ _=>0,p.2)
def PL(N H:Nat)(iQ:Nat→Bool)(nx:Nat→List Nat):Nat→(Nat→Nat→Int)×Int→(Nat→Nat→Int)×Int
 |0,p=>p
 |k+1,p=>PL N H iQ nx k (rnd N H iQ nx p)
structure Cr (sh:List iy) (N H:Nat) (lW:T) (rn:Nat) (now:Nat→Nat→Int) (t:Int):Prop where
 g0:iM sh 0=⟨1,.cells [.i .i64 (H:Int)] 0 true⟩
 g1:iM sh 1=⟨1,.cells [lW] 0 true⟩
 gB:iM sh 9=⟨1,.cells (zf rn N) 0 true⟩
 gT:iM sh 10=⟨1,.cells [.i .i64 t] 0 true⟩
 gR: ∀i,i<7→iM sh (rn+i)=⟨1,.cells (kH N (now i)) 0 false⟩
 b:11≤sh.length∧rn+7≤sh.length∧(rn=2∨11≤rn)
section
variable(N H:Nat)(lW nT:T)(iQ:Nat→Bool)(nx:Nat→List Nat)(lN: ∀f,f<N→ ∃q,∀kk,ng lW (.i kk (f:Int)) 1=some (.vp (.b (iQ f)::q)))(mI: ∀f,f<N→ ∃gT q,(∀kk,ng nT (.i kk (f:Int)) 1=some (.vp (gT::q)))∧iJ gT (nx f).length (ints ((nx f).map Int.ofNat))∧(nx f).length≤1000∧ ∀g∈nx f,g<N)(hH:H≤6)(hN:N≤1000)
include lN mI hH hN
theorem cd4(O:(Nat→Nat→Int)×Int)(fr:Fr)(lh:iL iy)(sh:List iy)(h5:an fr 5= .ptr .S 0 1 0)(h7:an fr 7= .i .i64 (N:Int))(h9:an fr 9=nT)(F:an fr 10= .ptr .S 9 1 0)(U:an fr 12= .fn 42 [] [.ptr .S 1 1 0,.ptr .S 10 1 0,.ptr .S 0 1 0])(Y:an fr 42= .i .i64 0)(Z:Cr sh N H lW 2 O.1 O.2):
  Lp pE 82 Bj fr lh sh (.ext 2) fun f l s=>l=lh∧iM s 10=⟨1,.cells [.i .i64 (PL N H iQ nx 5 O).2] 0 true⟩:=by
 refine kO KQ (fun k f l s=>an f 42= .i .i64 (k:Int)∧l=lh∧ ∃(p:(Nat→Nat→Int)×Int) (W:Nat),Cr s N H lW W p.1 p.2∧PL N H iQ nx (5-k) p=PL N H iQ nx 5 O) 5 ⟨Y,rfl,O,2,Z,rfl⟩ ?_ ?_
 ·rintro k f _ s hk I ⟨E,rfl,p,W,⟨g0,g1,gB,gT,gR,b1,b2,b3⟩,X⟩
  have iU:(k:Int)<5:=by omega
  have hw:wr .i64 ((k:Int)+1)=((k+1:Nat):Int):=by rw[jE (by omega)];omega
  have FH:wr .i64 ((H:Int)+1)=((H+1:Nat):Int):=by rw[jE (by omega)];omega
  have e1:=av8 N hN s
  generalize V:s.length=rb at*
  have EU:(s++List.replicate 7 (iy.mk 1 (.cells (kH N fun _=>0) 0 false))).length=rb+7:=by rw[List.length_append,V,List.length_replicate]
  generalize rP:s++List.replicate 7 (iy.mk 1 (.cells (kH N fun _=>0) 0 false))=s1 at*
  have pY: ∀lh,Ev.stV lh (iR s1 (rb+7) ⟨1,.cells [.nilsl,.nilsl,.nilsl,.nilsl,.nilsl,.nilsl,.nilsl] 0 true⟩) (.ptr .S (rb+7) 1 0) (.agg (zf rb N)) 7=some (lh,iR (iR s1 (rb+7) ⟨1,.cells [.nilsl,.nilsl,.nilsl,.nilsl,.nilsl,.nilsl,.nilsl] 0 true⟩) (rb+7) ⟨1,.cells (zf rb N) 0 true⟩):=fun lh=>amz (by rw[lD,if_pos rfl]) rfl rb N
  have gs: ∀j,j≠rb+7→iM (iR (iR s1 (rb+7) ⟨1,.cells [.nilsl,.nilsl,.nilsl,.nilsl,.nilsl,.nilsl,.nilsl] 0 true⟩) (rb+7) ⟨1,.cells (zf rb N) 0 true⟩) j=iM s1 j:=fun j hj=>by rw[lD,if_neg hj,lD,if_neg hj]
  have gA:iM (iR (iR s1 (rb+7) ⟨1,.cells [.nilsl,.nilsl,.nilsl,.nilsl,.nilsl,.nilsl,.nilsl] 0 true⟩) (rb+7) ⟨1,.cells (zf rb N) 0 true⟩) (rb+7)=⟨1,.cells (zf rb N) 0 true⟩:=by rw[lD,if_pos rfl]
  have l2:(iR (iR s1 (rb+7) ⟨1,.cells [.nilsl,.nilsl,.nilsl,.nilsl,.nilsl,.nilsl,.nilsl] 0 true⟩) (rb+7) ⟨1,.cells (zf rb N) 0 true⟩).length=rb+8:=by
   rw[jQ _ _ _ (by rw[←EU,qN,List.length_append];simp),←EU,qN,List.length_append,EU];rfl
  generalize iR (iR s1 (rb+7) ⟨1,.cells [.nilsl,.nilsl,.nilsl,.nilsl,.nilsl,.nilsl,.nilsl] 0 true⟩) (rb+7) ⟨1,.cells (zf rb N) 0 true⟩=s2 at*
  have K: ∀j,j<rb→iM s2 j=iM s j:=fun j hj=>by rw[gs j (by omega),←rP,uw (by omega)]
  have gr: ∀i,i<7→iM s2 (rb+i)=⟨1,.cells (kH N fun _=>0) 0 false⟩:=fun i hi=>by rw[gs _ (by omega),←rP,←V,ux,M9 hi]
  have k0:iM s2 0=⟨1,.cells [.i .i64 (H:Int)] 0 true⟩:=(K 0 (by omega)).trans g0
  simp(maxDischargeDepth:=6) only[qA,jA,seval,gd,iN,Bj,I,h5,h7,h9,F,U,E,iU,e1,arq,EU,pY,hw,FH,k0]
  generalize hD:DC pE 82 (.loop Bi) _=D
  obtain⟨f2,l2',s3,rfl,⟨rfl,hC3,hl3,lS⟩,xQ⟩:=G6 KP hD (cd3 N H rb (rb+7) 10 W 9 lW nT iQ nx lN mI hH hN ⟨by omega,by omega,by omega,by omega,by omega,by omega⟩ p.1 (fun _ _=>0) p.2 (fun h hh=>by omega) (by omega) _ _ _ (by simp only[qA,seval,I,h9]) (by simp only[qA,seval,I,F]) (by simp only[qA,seval,I,U]) (by simp only[qA,seval]) (by simp only[qA,seval]) (by simp only[qA,seval]) ((K 9 (by omega)).trans gB) (fun h hh=>(K _ (by omega)).trans (gR h hh)) ⟨k0,(K 1 (by omega)).trans g1,gA,(K 10 (by omega)).trans gT,gr,by omega,by omega⟩)
  have f14:an f2 14= .ptr .S (rb+7) 1 0:=by rw[xQ 14 (by decide)];simp only[qA,seval]
  have f10:an f2 10= .ptr .S 9 1 0:=by rw[xQ 10 (by decide)];simp only[qA,seval,I,F]
  have f42:an f2 42= .i .i64 (k:Int):=by rw[xQ 42 (by decide)];simp only[qA,seval,E]
  obtain⟨c0,c1,cA,cT,cR,cb1,cb2⟩:=hC3
  have xY: ∀lh,Ev.stV lh s3 (.ptr .S 9 1 0) (.agg (zf rb N)) 7=some (lh,iR s3 9 ⟨1,.cells (zf rb N) 0 true⟩):=fun lh=>amz ((lS 9 (by omega) (by omega)).trans ((K 9 (by omega)).trans gB)) rfl rb N
  have r1:0+7≤(zf rb N).length:=Nat.le_refl _
  have r2:(zf rb N).take 7=zf rb N:=rfl
  rw[show 5-k=(4-k)+1 by omega,PL]at X
  simp(maxDischargeDepth:=6) only[qA,jA,seval,gd,iN,f14,f10,f42,cA,r1,r2,xY,hw]
  have l4:(iR s3 9 ⟨1,.cells (zf rb N) 0 true⟩).length=rb+8:=by rw[jQ _ _ _ (by omega)];omega
  exact⟨_,rb,⟨by rw[lD,if_neg (by omega)];exact c0,by rw[lD,if_neg (by omega)];exact c1,by rw[lD,if_pos rfl],by rw[lD,if_neg (by omega)];exact cT,fun i hi=>by rw[lD,if_neg (by omega)];exact cR i hi,by omega,by omega,by omega⟩,X⟩
 ·rintro f _ s I ⟨E,rfl,p,W,Z,X⟩
  simp only[qA,seval,gd,Bj,I,E,Int.lt_irrefl]
  exact X▸Z.gT
end
def jn(c:Ct)(l:List Fl)(i j:Nat):Bool:=match l[i]?,l[j]? with
 |some x,some y=>Po c x y
 |_,_=>false
theorem aiZ{c:Ct}{l:List Fl}{i j:Nat}(hi:i<l.length)(D:j<l.length):jn c l i j=Po c l[i] l[j]:=by
 unfold jn;rw[List.getElem?_eq_getElem hi,List.getElem?_eq_getElem D]
def CS(D:List iy)(r:List Nat)(c:T)(s:List iy):Prop:=(r= []∧c= .nilsl∧s=D)∨(r≠ []∧ ∃g,c= .isl .S D.length g 0 r.length 1∧s=D++ [⟨g,.cells (ints (r.map Int.ofNat)) 0 false⟩])
theorem JO(J:Nat→Bool)(k:Nat):(List.range (k+1)).filter J=if J k then(List.range k).filter J++ [k]else(List.range k).filter J:=by
 rw[List.range_succ,List.filter_append]
 by_cases h:J k=true <;> simp[h]
theorem Cd(J:Nat→Bool)(k:Nat):((List.range k).filter J).length≤k:=by
 have:=List.length_filter_le J (List.range k)
 rwa [List.length_range]at this
theorem Uw{a:List iy}{x e:iy}:iR (a++ [x]) a.length e=a++ [e]:=by
 induction a with
 |nil=>rfl
 |cons y D ih=>rw[List.cons_append,List.length_cons,tW,ih];rfl
section
variable(zT aT fT a7 a8 a9 a10 iH iG:T)(c:Ct)(rE fc:List T)(l:List Fl)(hf:iJ fT l.length fc)(hr:iK T4 l fc)(hN:l.length≤1000)
include hf hr hN
theorem pc1(i:Nat)(hi:i<l.length)(S3:List T)(CE:S3.length=l.length)(Ve:S3.drop i= .nilsl::S3.drop (i+1))(E:List iy)(fr:Fr)(lh:iL iy)(V:an fr 0= .vp (zT::aT::fT::(jb c a7 a8 a9 a10 iH iG++rE)))(W:an fr 3= .isl .L 12 1 0 l.length 1)(X:an fr 4= .i .i64 (i:Int))(K:an fr 19= .i .i64 (l.length:Int))(Y:an fr 20= .i .i64 0)(Z:a6 lh 12=⟨1,.cells S3 0 true⟩):
  Lp pE 40 wB fr lh E (.ext 2) fun f F s=> ∃v,a6 F 12=⟨1,.cells (S3.set i v) 0 true⟩∧CS E (ln l.length (jn c l) i) v s:=by
 refine kO KI (fun k f F s=>an f 20= .i .i64 (k:Int)∧ ∃v,a6 F 12=⟨1,.cells (S3.set i v) 0 true⟩∧CS E ((List.range k).filter fun j=>jn c l i j) v s) l.length ⟨Y,.nilsl,by
  rw[Z]
  refine congrArg (fun c=>iy.mk 1 (.cells c 0 true)) ?_
  refine List.ext_getElem (by simp) fun j h1 h2=> ?_
  rw[List.getElem_set]
  by_cases e:i=j
  ·subst e
   rw[if_pos rfl]
   have:=congrArg (fun l=>l[0]?) Ve
   simpa[h1]using this
  ·rw[if_neg e],.inl ⟨rfl,rfl,rfl⟩⟩ ?_ ?_
 ·rintro k f F s hk I ⟨D,v,o,O⟩
  have Vd:i+1≤l.length:=hi
  have hg:(S3.set i v)[i]? =some v:=by rw[List.getElem?_set_self (by omega)]
  have wg:(S3.set i v).length=l.length:=by rw[List.length_set];exact CE
  have A6: ∀u,splice (S3.set i v) i [u]=S3.set i u:=fun u=>by rw[sq _ _ _ (by omega),List.set_set]
  have r8:8≤roomy:=by unfold roomy;omega
  have iU:(k:Int)<l.length:=by omega
  have hw:wr .i64 ((k:Int)+1)=((k+1:Nat):Int):=by rw[jE (by omega)];omega
  have U:=alS zT aT fT a7 a8 a9 a10 iH iG c rE fc l hf hr i k hi hk
  rw[←aiZ hi hk]at U
  rw[JO]
  have aHU:=Cd (jn c l i) k
  generalize (List.range k).filter (fun j=>jn c l i j)=r at*
  by_cases hb:jn c l i k=true
  ·rcases O with⟨rfl,rfl,rfl⟩|⟨hr0,g,rfl,rfl⟩
   ·simp(maxDischargeDepth:=6) only[qA,jA,seval,gd,wB,I,V,W,X,K,D,iU,hw,U,hb,ajI,hi,Vd,o,hg,wg,A6,lC,ju,lI,k8,mF,repl,r8,qN]
    exact⟨_,rfl,.inr ⟨by simp,1,rfl,rfl⟩⟩
   ·have U4:iM (E++ [(⟨g,.cells (ints (r.map Int.ofNat)) 0 false⟩:iy)]) E.length=⟨g,.cells (ints (r.map Int.ofNat)) 0 false⟩:=by
     have:=ux (a:=E) (b:= [(⟨g,.cells (ints (r.map Int.ofNat)) 0 false⟩:iy)]) (k:=0)
     exact this
    have hse: ∀e,iR (E++ [(⟨g,.cells (ints (r.map Int.ofNat)) 0 false⟩:iy)]) E.length e=E++ [e]:=fun e=>Uw
    have EU:r.length*1=(ints (r.map Int.ofNat)).length:=by rw[kb,List.length_map,Nat.mul_one]
    have r9:(r.length+1)*8≤roomy:=by unfold roomy;omega
    simp(maxDischargeDepth:=6) only[qA,jA,seval,gd,wB,I,V,W,X,K,D,iU,hw,U,hb,ajI,hi,Vd,o,hg,wg,A6,lC,ju,k8,mG,kE,repl,U4,hse,EU,r9]
    exact⟨_,rfl,.inr ⟨by simp,g+1,by simp,by simp[ints]⟩⟩
  ·simp(maxDischargeDepth:=6) only[qA,jA,seval,gd,wB,I,V,W,X,K,D,iU,hw,U,hb,ajI,hi,Vd,o,hg,wg,A6]
   exact⟨v,rfl,O⟩
 ·rintro f F s I ⟨D,v,o,O⟩
  simp only[qA,seval,gd,wB,I,K,D,Int.lt_irrefl]
  exact⟨v,o,O⟩
def CO(s:List iy)(v:T)(r:List Nat):Prop:=(r= []∧v= .nilsl)∨r≠ []∧ ∃k g,v= .isl .S k g 0 r.length 1∧k<s.length∧iM s k=⟨g,.cells (ints (r.map Int.ofNat)) 0 false⟩
omit hf hr hN in
theorem CO.mono{s:List iy}{v:T}{r:List Nat}(h:CO s v r)(x:List iy):CO (s++x) v r:=by
 rcases h with h|⟨D,k,g,E,F,I⟩
 ·exact .inl h
 ·exact .inr ⟨D,k,g,E,by rw[List.length_append];omega,by rw[uw F];exact I⟩
def Ux(s:List iy):List T→List (List Nat)→Prop
 | [],[]=>True
 |v::D,r::E=>CO s v r∧Ux s D E
 |_,_=>False
omit hf hr hN in
theorem Ux.mono{s:List iy}(x:List iy): ∀{D:List T} {E:List (List Nat)},Ux s D E→Ux (s++x) D E
 | [],[],_=>trivial
 |_::_,_::_,h=>⟨h.1.mono x,h.2.mono x⟩
omit hf hr hN in
theorem Ux.snoc{s:List iy}{v:T}{r:List Nat}(h:CO s v r): ∀{D:List T} {E:List (List Nat)},Ux s D E→Ux s (D++ [v]) (E++ [r])
 | [],[],_=>⟨h,trivial⟩
 |_::_,_::_,g=>⟨g.1,g.2.snoc h⟩
omit hf hr hN in
theorem Ux.len{s:List iy}: ∀{D:List T} {E:List (List Nat)},Ux s D E→D.length=E.length
 | [],[],_=>rfl
 |_::_,_::_,g=>by rw[List.length_cons,List.length_cons,g.2.len]
def qO(r:List Nat):T:=if r= []then .nilsl else .sl (ints (r.map Int.ofNat)) r.length false
omit hf hr hN in
theorem CO.fz{s:List iy}{v:T}{r:List Nat}{lh:iL iy}{m:Nat}(h:CO s v r): ∃us,(fz false (m+1) v).run (St.mk .nil lh s).get s.length=some (qO r,us):=by
 rcases h with⟨rfl,rfl⟩|⟨h0,k,g,rfl,h2,h3⟩
 ·exact⟨_,rfl⟩
 ·unfold Ev.fz
  have U4:(St.mk .nil lh s).get .S k=iM s k:=rfl
  simp only[Bool.false_and,Bool.false_eq_true,if_false,Q.run,U4,h3,if_true]
  have D:(ints (r.map Int.ofNat)).length=r.length:=by rw[kb,List.length_map]
  rw[if_pos (by omega)]
  refine⟨_,congrArg some (Prod.ext ?_ rfl)⟩
  show T.sl _ _ _=_
  rw[List.drop_zero,Nat.mul_one,List.take_of_length_le (by omega)]
  unfold qO
  rw[if_neg h0]
omit hf hr hN in
theorem Ux.fz{s:List iy}{lh:iL iy}{m:Nat}: ∀{D:List T} {E:List (List Nat)},Ux s D E→ ∃us,(jm (Ev.fz false (m+1)) D).run (St.mk .nil lh s).get s.length=some (E.map qO,us)
 | [],[],_=>⟨_,rfl⟩
 |v::D,r::E,h=>by
  obtain⟨K,F⟩:=h.1.fz (lh:=lh) (m:=m)
  obtain⟨O,I⟩:=h.2.fz (lh:=lh) (m:=m)
  simp only[jm,jq,F,I,Option.bind_some,Q.run,List.map_cons]
  exact⟨_,rfl⟩
theorem pc2(fr:Fr)(lh:iL iy)(X:an fr 0= .vp (zT::aT::fT::(jb c a7 a8 a9 a10 iH iG++rE)))(Y:an fr 3= .isl .L 12 1 0 l.length 1)(Z:an fr 14= .i .i64 (l.length:Int))(nj:an fr 15= .i .i64 0)(U:a6 lh 12=⟨1,.cells (List.replicate l.length .nilsl) 0 true⟩):
  Lp pE 40 Be fr lh [] (.ext 0) fun f I s=> ∃E,a6 I 12=⟨1,.cells E 0 true⟩∧Ux s E ((List.range l.length).map (ln l.length (jn c l))):=by
 refine kO KJ (fun k f I s=>an f 15= .i .i64 (k:Int)∧ ∃E,a6 I 12=⟨1,.cells (E++List.replicate (l.length-k) .nilsl) 0 true⟩∧Ux s E ((List.range k).map (ln l.length (jn c l)))) l.length ⟨nj,[],by rw[U];rfl,trivial⟩ ?_ ?_
 ·rintro k f I s hk K ⟨F,E,o,O⟩
  have iU:(k:Int)<l.length:=by omega
  have hw:wr .i64 ((k:Int)+1)=((k+1:Nat):Int):=by rw[jE (by omega)];omega
  have wx:=O.len
  rw[List.length_map,List.length_range]at wx
  have lV:lenI (T.isl .L 12 1 0 l.length 1)=some (.i .i64 (l.length:Int)):=rfl
  have ls:(E++List.replicate (l.length-k) T.nilsl).length=l.length:=by rw[List.length_append,List.length_replicate];omega
  have V:(E++List.replicate (l.length-k) T.nilsl).drop k= .nilsl::(E++List.replicate (l.length-k) T.nilsl).drop (k+1):=by
   rw[show k=E.length from wx.symm,List.drop_left,show E.length+1=E.length+1 from rfl,List.drop_append,List.drop_of_length_le (by omega),List.nil_append,show l.length-E.length=(l.length-E.length-1)+1 by omega,List.replicate_succ,show E.length+1-E.length=1 by omega]
   rfl
  simp(maxDischargeDepth:=6) only[qA,jA,seval,gd,Be,K,X,Y,Z,F,iU,hw,lV]
  generalize hD:DC pE 40 (.loop wB) _=D
  obtain⟨f2,l2,s2,rfl,⟨v,o2,hS⟩,xQ⟩:=G6 KI hD (pc1 zT aT fT a7 a8 a9 a10 iH iG c rE fc l hf hr hN k hk (E++List.replicate (l.length-k) .nilsl) ls V s _ _ (by simp only[qA,seval,K,X]) (by simp only[qA,seval,K,Y]) (by simp only[qA,seval]) (by simp only[qA,seval]) (by simp only[qA,seval]) o)
  have W:an f2 15= .i .i64 (k:Int):=by rw[xQ 15 (by decide)];simp only[qA,seval,F]
  simp(maxDischargeDepth:=6) only[qA,jA,seval,gd,W,hw]
  refine⟨E++ [v], ?_, ?_⟩
  ·rw[o2]
   refine congrArg (fun c=>iy.mk 1 (.cells c 0 true)) ?_
   rw[List.set_append,if_neg (by omega),show k-E.length=0 by omega,show l.length-k=(l.length-(k+1))+1 by omega,List.replicate_succ,List.set_cons_zero,List.append_assoc]
   rfl
  ·rw[List.range_succ,List.map_append]
   rcases hS with⟨h1,rfl,rfl⟩|⟨h1,g,rfl,rfl⟩
   ·exact O.snoc (.inl ⟨h1,rfl⟩)
   ·exact(O.mono _).snoc (.inr ⟨h1,_,g,rfl,by simp,ux (k:=0)⟩)
 ·rintro f I s K ⟨F,E,o,O⟩
  simp only[qA,seval,gd,Be,K,Z,F,Int.lt_irrefl]
  rw[Nat.sub_self,List.replicate_zero,List.append_nil]at o
  exact⟨E,o,O⟩
def KA(N:Nat)(J:Nat→Nat→Bool):T:= .sl (((List.range N).map (ln N J)).map qO) N false
theorem F7: ∃s,be pE 18 [.vp (zT::aT::fT::(jb c a7 a8 a9 a10 iH iG++rE))] []=some (KA l.length (jn c l),s):=by
 have O:l.length*24≤roomy:=by unfold roomy;omega
 have U:l.length≤roomy:=by unfold roomy;omega
 have V:=hf.lenI
 have A9:repl [T.nilsl] l.length=List.replicate l.length .nilsl:=by
  generalize l.length=n
  induction n with
  |zero=>rfl
  |succ n ih=>rw[repl,ih,List.replicate_succ];rfl
 have E:lenI (T.isl .L 12 1 0 l.length 1)=some (.i .i64 (l.length:Int)):=rfl
 rw[iD acv (by simp[c18])]
 simp(maxDischargeDepth:=6) only[qA,seval,c18,V,E,A9,O,U]
 generalize W:DC pE 40 (.loop Be) _=D
 obtain⟨X,I,Y,rfl,⟨vs,Z,K⟩,xQ⟩:=G6 KJ W (pc2 zT aT fT a7 a8 a9 a10 iH iG c rE fc l hf hr hN _ _ (by simp only[qA,seval]) (by simp only[qA,seval]) (by simp only[qA,seval]) (by simp only[qA,seval]) (by simp only[qA,seval]))
 have f3:an X 3= .isl .L 12 1 0 l.length 1:=by rw[xQ 3 (by decide)];simp only[qA,seval]
 have wx:=K.len
 rw[List.length_map,List.length_range]at wx
 obtain⟨us,e⟩:=K.fz (lh:=I) (m:=6)
 have F: ∃us,fzV I Y false (.isl .L 12 1 0 l.length 1)=some (KA l.length (jn c l),us):=by
  rw[I8,Z]
  unfold Tl;dsimp only
  rw[if_pos ⟨rfl,by omega⟩,List.drop_zero,Nat.mul_one,List.take_of_length_le (by omega),e]
  exact⟨_,rfl⟩
 obtain⟨us2,e2⟩:=F
 simp(maxDischargeDepth:=6) only[qA,seval,f3,e2]
 exact⟨_,rfl⟩
end
def aaB(N H:Nat)(iQ:Nat→Bool)(nx:Nat→List Nat):Int:=(PL N H iQ nx 5 (F6 H iQ (List.range N) (fun _ _=>0,0))).2
def nk(ops:List Int)(f:Nat):Bool:=decide ((f:Int)∈ops)
theorem JP(N:Nat)(ops:List Int)(f:Nat)(hf:f<N): ∃q,∀kk,ng (.sl (sC (nl N ops)) N false) (.i kk (f:Int)) 1=some (.vp (.b (nk ops f)::q)):=by
 refine⟨(sC (nl N ops)).drop (f+1),fun kk=> ?_⟩
 rw[kG,if_pos ⟨by omega,by simpa using hf,by rw[vK];simp;omega⟩,Int.toNat_natCast,Nat.mul_one,List.drop_eq_getElem_cons (by rw[vK];exact hf)]
 refine congrArg some (congrArg T.vp (congrArg (· ::_) ?_))
 simp[sC,nl,nk]
theorem PM(N:Nat)(J:Nat→Nat→Bool)(hN:N≤1000)(f:Nat)(hf:f<N): ∃gT q,(∀kk,ng (KA N J) (.i kk (f:Int)) 1=some (.vp (gT::q)))∧iJ gT (ln N J f).length (ints ((ln N J f).map Int.ofNat))∧(ln N J f).length≤1000∧ ∀g∈ln N J f,g<N:=by
 have hl:(((List.range N).map (ln N J)).map qO).length=N:=by simp
 refine⟨qO (ln N J f),(((List.range N).map (ln N J)).map qO).drop (f+1),fun kk=> ?_, ?_, ?_,fun g D=>List.mem_range.1 (List.mem_filter.1 D).1⟩
 ·unfold KA
  rw[kG,if_pos ⟨by omega,by simpa using hf,by rw[hl];simp;omega⟩,Int.toNat_natCast,Nat.mul_one,List.drop_eq_getElem_cons (by rw[hl];exact hf)]
  refine congrArg some (congrArg T.vp (congrArg (· ::_) ?_))
  simp
 ·unfold qO
  split
  ·rename_i h;rw[h];exact .inl ⟨rfl,rfl,rfl⟩
  ·exact .inr ⟨_,rfl⟩
 ·exact Nat.le_trans (Cd (J f) N) hN
section
variable(zT aT fT a7 a8 a9 a10 iH iG:T)(c:Ct)(rE fc:List T)(l:List Fl)(hf:iJ fT l.length fc)(hr:iK T4 l fc)(hN:l.length≤1000)
include hf hr hN
theorem RD(ops:List Int)(oT:T)(ho:iJ oT ops.length (ints ops))(hl:ops.length≤1000)(jv: ∀x∈ops,0≤x∧x<(l.length:Int))(H:Nat)(hH:H≤6):
  ∃s,be pE 22 [.vp (zT::aT::fT::(jb c a7 a8 a9 a10 iH iG++rE)),oT,.i .i64 (H:Int)] []=some (.i .i64 (aaB l.length H (nk ops) (ln l.length (jn c l))),s):=by
 have Y:=hf.lenI
 have yg:=ho.froz
 have pg:=ho.froz1
 have K:=F4 zT aT fT (jb c a7 a8 a9 a10 iH iG++rE) l.length Y hN ops oT ho hl jv
 obtain⟨s0,e2⟩:=F7 zT aT fT a7 a8 a9 a10 iH iG c rE fc l hf hr hN
 have e3:=fun sh=>av8 l.length hN sh
 have lN:=JP l.length ops
 have mI:=PM l.length (jn c l) hN
 have z1:froz1 (.sl (sC (nl l.length ops)) l.length false)=true:=rfl
 have z2:froz1 (KA l.length (jn c l))=true:=rfl
 have z3:froz (KA l.length (jn c l))=true:=rfl
 have z4:froz (.sl (sC (nl l.length ops)) l.length false)=true:=rfl
 have z5:cellsOf (.sl (sC (nl l.length ops)) l.length false)= [.sl (sC (nl l.length ops)) l.length false]:=rfl
 have z6:noTup (.sl (sC (nl l.length ops)) l.length false)=true:=rfl
 generalize hI:T.sl (sC (nl l.length ops)) l.length false=lW at*
 generalize hX:KA l.length (jn c l)=nT at*
 rw[iD aq7 (by simp[c22])]
 have W: ∀x:iy,List.replicate 7 x= [x,x,x,x,x,x,x]:=fun _=>rfl
 have pY: ∀(lh:iL iy) (X K r:iy),Ev.stV lh [X,K,r,r,r,r,r,r,r,⟨1,.cells [.nilsl,.nilsl,.nilsl,.nilsl,.nilsl,.nilsl,.nilsl] 0 true⟩] (.ptr .S 9 1 0) (.agg (zf 2 l.length)) 7=some (lh,[X,K,r,r,r,r,r,r,r,⟨1,.cells (zf 2 l.length) 0 true⟩]):=fun lh X K r=>amz rfl rfl 2 l.length
 simp(maxDischargeDepth:=6) only[qA,jA,kP,W,seval,iN,c22,Y,K,e2,e3,aAg,az6,arq,yg,pg,z1,z2,z3,z4,z5,z6,pY]
 generalize V:DC pE 82 (.loop Bk) _=D
 obtain⟨I,l2,s2,rfl,⟨rfl,hC,wg,lS⟩,F⟩:=G6 KR V (cd0 l.length H 2 9 10 lW (nk ops) lN hH hN ⟨by omega,by omega,by omega,by omega,by omega,by omega⟩ (fun _ _=>0) 0 _ _ _ (by simp only[qA,seval]) (by simp only[qA,seval]) (by simp only[qA,seval]) (by simp only[qA,seval]) ⟨rfl,rfl,rfl,rfl,fun i hi=>by
  have:i=0∨i=1∨i=2∨i=3∨i=4∨i=5∨i=6:=by omega
  rcases this with rfl|rfl|rfl|rfl|rfl|rfl|rfl <;> rfl,by simp,by simp⟩)
 have Z:an I 5= .ptr .S 0 1 0:=by rw[F 5 (by decide)];simp only[qA,seval]
 have f7:an I 7= .i .i64 (l.length:Int):=by rw[F 7 (by decide)];simp only[qA,seval]
 have f9:an I 9=nT:=by rw[F 9 (by decide)];simp only[qA,seval]
 have O:an I 10= .ptr .S 9 1 0:=by rw[F 10 (by decide)];simp only[qA,seval]
 have E:an I 11= .ptr .S 10 1 0:=by rw[F 11 (by decide)];simp only[qA,seval]
 have U:an I 12= .fn 42 [] [.ptr .S 1 1 0,.ptr .S 10 1 0,.ptr .S 0 1 0]:=by rw[F 12 (by decide)];simp only[qA,seval]
 clear F V
 simp(maxDischargeDepth:=6) only[qA,jA,seval,iN,Z,f7,f9,O,E,U]
 generalize V:DC pE 82 (.loop Bj) _=D
 obtain⟨c0,c1,cA,cT,cR,cb1,cb2⟩:=hC
 have NW:s2.length=11:=wg
 obtain⟨f3,l3,s3,rfl,⟨rfl,hT⟩,Na⟩:=G6 KQ V (cd4 l.length H lW nT (nk ops) (ln l.length (jn c l)) lN mI hH hN (F6 H (nk ops) (List.range l.length) (fun _ _=>0,0)) _ _ _ (by simp only[qA,seval,Z]) (by simp only[qA,seval,f7]) (by simp only[qA,seval,f9]) (by simp only[qA,seval,O]) (by simp only[qA,seval,U]) (by simp only[qA,seval]) ⟨c0,c1,cA,cT,cR,by omega,by omega,.inl rfl⟩)
 have E:an f3 11= .ptr .S 10 1 0:=by rw[Na 11 (by decide)];simp only[qA,seval,E]
 simp(maxDischargeDepth:=6) only[qA,jA,seval,iN,E,hT]
 exact⟨_,rfl⟩
end
def ni(n:Nat):Int:=wr .i64 (n:Int)
theorem wrap64(n:Int):IntKind.i64.wrap n=if 9223372036854775808≤n%18446744073709551616 then n%18446744073709551616-18446744073709551616 else n%18446744073709551616:=by
 unfold IntKind.wrap
 simp[IntKind.bits,IntKind.signed]
theorem JQ(n:Nat): ∃k:Int,ni n=n+18446744073709551616*k∧ -9223372036854775808≤ni n∧ni n<9223372036854775808:=by
 unfold ni
 rw[ES,wrap64]
 split
 ·exact⟨-((n:Int)/18446744073709551616)-1,by omega,by omega,by omega⟩
 ·exact⟨-((n:Int)/18446744073709551616),by omega,by omega,by omega⟩
theorem aaC{a b:Int}(h: ∃k:Int,a=b+18446744073709551616*k):wr .i64 a=wr .i64 b:=by
 obtain⟨k,rfl⟩:=h
 rw[ES,ES,wrap64,wrap64,show(b+18446744073709551616*k)%18446744073709551616=b%18446744073709551616 by omega]
theorem tj(a b:Nat):wr .i64 (ni a+ni b)=ni (a+b):=by
 obtain⟨k,h,_⟩:=JQ a
 obtain⟨m,D,_⟩:=JQ b
 exact aaC ⟨k+m,by rw[h,D];push_cast;omega⟩
theorem sr:ni 0=0:=by decide
theorem RE:ni 1=1:=by decide
theorem xb{a b:Nat}(h:ni b=0):ni (a+b)=ni a:=by
 obtain⟨k,D,_⟩:=JQ b
 exact aaC ⟨-k,by rw[h]at D;push_cast;omega⟩
theorem aaD(a:Nat):wr .i64 (ni a)=ni a:=by
 obtain⟨k,h,D,E⟩:=JQ a
 exact jE ⟨by omega,by omega⟩
section
variable(N H:Nat)(J:Nat→Nat→Bool)(iQ:Nat→Bool)
def Rl(p:(Nat→Nat→Int)×Int)(q:(Nat→Nat→Nat)×Nat):Prop:=(∀h g,p.1 h g=ni (q.1 h g))∧p.2=ni q.2
theorem afB(h f w:Nat)(p:(Nat→Nat→Int)×Int)(q:(Nat→Nat→Nat)×Nat)(U:Rl p q):Rl (zg H (iQ f) h f (ni w) p.1,F5 H (iQ f) h (ni w) p.2) (F3 H iQ h f w q.1,q.2+G5 H iQ h f w):=by
 obtain⟨D,E⟩:=U
 constructor
 ·intro F g
  show zg _ _ _ _ _ _ _ _=ni (F3 _ _ _ _ _ _ _ _)
  unfold zg F3
  by_cases I:g=f
  ·subst I
   by_cases K:F=h
   ·subst K
    cases hi:iQ g <;> simp[rk,hi,D,tj]
   ·by_cases O:F=h+1∧h<H
    ·simp[O,D,tj]
    ·simp[K,O,D]
  ·simp[I,D]
 ·show F5 _ _ _ _ _=ni (q.2+G5 _ _ _ _ _)
  unfold F5 G5
  by_cases hl:h<H
  ·cases hi:iQ f <;> simp[hl,E,tj,rk,Nat.add_assoc]
  ·cases hi:iQ f <;> simp[hl,E,tj,rk]
theorem JR(h w:Nat): ∀(D:List Nat) (p:(Nat→Nat→Int)×Int) (q:(Nat→Nat→Nat)×Nat),Rl p q→Rl (Dk H iQ h (ni w) D p) (rnG H iQ h w D q.1,tnG H iQ h w D q.2)
 | [],p,q,E=>E
 |g::D,p,q,E=>JR h w D _ _ (afB H iQ h g w p q E)
theorem aaE(h w:Nat)(D:ni w=0)(E:List Nat)(p:(Nat→Nat→Int)×Int)(q:(Nat→Nat→Nat)×Nat)(K:Rl p q):Rl p (rnG H iQ h w E q.1,tnG H iQ h w E q.2):=by
 induction E generalizing q with
 |nil=>exact K
 |cons g E ih=>
  refine ih (F3 H iQ h g w q.1,q.2+G5 H iQ h g w) ⟨fun O W=> ?_, ?_⟩
  ·rw[K.1]
   show _=ni (F3 _ _ _ _ _ _ _ _)
   unfold F3
   have F: ∀b,ni (rk b*w)=0:=fun b=>by cases b <;> simp[rk,D,sr]
   by_cases U:W=g
   ·rw[if_pos U,←Nat.add_assoc]
    by_cases V:O=h
    ·rw[if_pos V]
     by_cases I:O=h+1∧h<H
     ·omega
     ·rw[if_neg I,Nat.add_zero,xb (F _)]
    ·rw[if_neg V,Nat.add_zero]
     by_cases I:O=h+1∧h<H
     ·rw[if_pos I,xb D]
     ·rw[if_neg I,Nat.add_zero]
   ·rw[if_neg U,Nat.add_zero]
  ·rw[K.2]
   show _=ni (_+G5 _ _ _ _ _)
   unfold G5
   have F: ∀b,ni (rk b*w)=0:=fun b=>by cases b <;> simp[rk,D,sr]
   rw[←Nat.add_assoc]
   by_cases hl:h<H
   ·rw[if_pos hl,xb D,xb (F _)]
   ·rw[if_neg hl,Nat.add_zero,xb (F _)]
theorem Ia(nx:Nat→List Nat)(h:Nat)(r:Nat→Int): ∀(l:List Nat) (f:Nat) (p:(Nat→Nat→Int)×Int),zh H iQ nx h r (l++ [f]) p=if r f=0 then zh H iQ nx h r l p else Dk H iQ h (r f) (nx f) (zh H iQ nx h r l p)
 | [],f,p=>rfl
 |x::l,f,p=>by rw[List.cons_append,zh,zh,Ia nx h r l f]
theorem RF(h:Nat)(r:Nat→Int)(D:Nat→Nat→Nat)(hr: ∀f,r f=ni (D h f))(p:(Nat→Nat→Int)×Int)(q:(Nat→Nat→Nat)×Nat)(E:Rl p q): ∀k,Rl (zh H iQ (ln N J) h r (List.range k) p) (rnF N H J iQ D h k q.1,tnF N H J iQ D h k q.2)
 |0=>E
 |k+1=>by
  rw[List.range_succ,Ia,hr]
  have ih:=RF h r D hr p q E k
  split
  ·rename_i F
   exact aaE H iQ h _ F _ _ (_,_) ih
  ·exact JR H iQ h _ _ _ (_,_) ih
theorem Ib(nx:Nat→List Nat)(D:Nat→Nat→Int): ∀(l:List Nat) (h:Nat) (p:(Nat→Nat→Int)×Int),Cb N H iQ nx D (l++ [h]) p=zh H iQ nx h (D h) (List.range N) (Cb N H iQ nx D l p)
 | [],h,p=>rfl
 |x::l,h,p=>by rw[List.cons_append,Cb,Cb,Ib nx D l h]
theorem RG(E:Nat→Nat→Int)(D:Nat→Nat→Nat)(I: ∀h f,E h f=ni (D h f))(t:Int)(F:Nat)(K:t=ni F): ∀k,Rl (Cb N H iQ (ln N J) E (List.range k) (fun _ _=>0,t)) (rnH N H J iQ D k,tnH N H J iQ D k F)
 |0=>⟨fun _ _=>sr.symm,K⟩
 |k+1=>by
  rw[List.range_succ,Ib]
  exact RF N H J iQ k (E k) D (I k) _ (_,_) (RG E D I t F K k) N
theorem RH: ∀(l:List Nat) (p:(Nat→Nat→Int)×Int),F6 H iQ l p=Dk H iQ 0 1 l p
 | [],p=>rfl
 |f::l,p=>by rw[F6,Dk,RH l]
def rN(p:(Nat→Nat→Nat)×Nat):(Nat→Nat→Nat)×Nat:=(rnH N H J iQ p.1 (H+1),tnH N H J iQ p.1 (H+1) p.2)
def rsN:Nat→(Nat→Nat→Nat)×Nat→(Nat→Nat→Nat)×Nat
 |0,p=>p
 |k+1,p=>rsN k (rN N H J iQ p)
theorem RI: ∀(k:Nat) (p:(Nat→Nat→Int)×Int) (q:(Nat→Nat→Nat)×Nat),Rl p q→Rl (PL N H iQ (ln N J) k p) (rsN N H J iQ k q)
 |0,p,q,h=>h
 |k+1,p,q,h=>RI k _ _ (RG N H J iQ p.1 q.1 h.1 p.2 q.2 h.2 (H+1))
def yh(c:Nat→Nat→Nat→Nat):Nat→Nat
 |0=>0
 |k+1=>yh c k+RA N H (fun h g=>c (k+1) g h)
theorem Ic{n m:Nat→Nat→Nat}(h: ∀D g,D≤H→g<N→n D g=m D g):RA N H n=RA N H m:=
 jJ fun D F=>jJ fun g E=>h D g (by omega) E
theorem amB(m k:Nat)(q:(Nat→Nat→Nat)×Nat)(U: ∀h g,h≤H→g<N→q.1 h g=cA N J iQ (m+1) g h)(K:q.2=yh N H (cA N J iQ) (m+1)):(rsN N H J iQ k q).2=yh N H (cA N J iQ) (m+k+1):=by
 induction k generalizing m q with
 |zero=>exact K
 |succ k ih=>
  have e: ∀h g,h≤H→g<N→rnH N H J iQ q.1 (H+1) h g=cA N J iQ (m+2) g h:=fun h g E F=>by
   rw[aaw N H J iQ q.1 h g E F]
   show H9 iQ g _ h=H9 iQ g _ h
   unfold H9
   have O: ∀D,D≤H→(Sm N fun f=>rk (J f g)*q.1 D f)=Sm N fun f=>rk (J f g)*cA N J iQ (m+1) f D:=fun D I=>jJ fun f hf=>by rw[U D f I hf]
   dsimp only
   rw[O h E]
   congr 1
   cases h with
   |zero=>rfl
   |succ h=>exact O h (by omega)
  rw[rsN,ih (m+1) (rN N H J iQ q) (fun h g E F=>e h g E F) ?_]
  ·rw[show m+1+k+1=m+(k+1)+1 by omega]
  ·show tnH N H J iQ q.1 (H+1) q.2=_
   rw[aay N H J iQ q.1 q.2 (H+1) (Nat.le_refl _),K,Ic N H e]
   rfl
theorem RJ:aaB N H iQ (ln N J)=ni (yh N H (cB N J iQ) 6):=by
 unfold aaB
 rw[RH]
 have I:Rl ((fun _ _=>0,0):(Nat→Nat→Int)×Int) ((fun _ _=>0,0):(Nat→Nat→Nat)×Nat):=⟨fun _ _=>sr.symm,sr.symm⟩
 have E:=JR H iQ 0 1 (List.range N) _ _ I
 rw[RE]at E
 rw[(RI N H J iQ 5 _ _ E).2]
 have F: ∀h g,h≤H→g<N→rnG H iQ 0 1 (List.range N) (fun _ _=>0) h g=cA N J iQ 1 g h:=fun h g O D=>by
  rw[PJ,B9 D]
  show _=H9 iQ g vJ h
  unfold H9
  rcases h with _|_|h
  ·simp[vJ,sf]
  ·have:0<H:=by omega
   simp[vJ,sf,this]
  ·simp[vJ,sf]
 have K:tnG H iQ 0 1 (List.range N) 0=yh N H (cA N J iQ) 1:=by
  have:=PK N H iQ 0 1 (Nat.zero_le _) (List.range N) (fun _ _=>0) 0 fun g D=>List.mem_range.1 D
  rw[Ic N H F,show RA N H (fun _ _=>0)=0 by unfold RA;simp only[qv],Nat.add_zero]at this
  rw[this]
  rfl
 rw[amB N H J iQ 0 5 (_,_) F K]
 congr 1
 have: ∀k,yh N H (cA N J iQ) k=yh N H (cB N J iQ) k:=by
  intro k
  induction k with
  |zero=>rfl
  |succ k ih=>
   rw[yh,yh,ih]
   congr 1
   exact jJ fun h _=>cAB N J iQ k h
 exact this _
end
def vL(N:Nat):Option Int→List Int→Int
 |_,[]=>0
 |p,x::l=>if 0≤x∧x<(N:Int)then match p with
    |some q=>if x≤q then 8 else vL N (some x) l
    |none=>vL N (some x) l
  else 6
def Nb(l:List Int)(k:Nat):Option Int:=if k=0 then none else l[k-1]?
theorem Ie(l:List Int)(k:Nat)(D:k<l.length):Nb l (k+1)=some l[k]:=by
 unfold Nb;rw[if_neg (by omega),Nat.add_sub_cancel,List.getElem?_eq_getElem D]
theorem Nc(l:List Int)(k:Nat)(E:k<l.length)(D:k≠0):Nb l k=some l[k-1]:=by
 unfold Nb;rw[if_neg D,List.getElem?_eq_getElem (by omega)]
theorem F8(N:Nat)(p:Option Int)(x:Int)(l:List Int):vL N p (x::l)=if 0≤x∧x<(N:Int)then(match p with|some q=>if x≤q then 8 else vL N (some x) l|none=>vL N (some x) l)else 6:=by cases p <;> rfl
theorem RK(N:Nat)(p:Option Int):vL N p []=0:=by cases p <;> rfl
section
variable(zT aT fT:T)(r fc:List T)(N:Nat)(hf:iJ fT N fc)(hN:N≤1000)(ops:List Int)(oT:T)(ho:iJ oT ops.length (ints ops))(hl:ops.length≤1000)
include hf hN ho hl
theorem aCR(fr:Fr)(lh:iL iy)(sh:List iy)(h0:an fr 0= .vp (zT::aT::fT::r))(h1:an fr 1=oT)(h9:an fr 9=oT)(E:an fr 10= .i .i64 (ops.length:Int))(V:an fr 11= .i .i64 0):
  vw pE 38 Bg fr lh sh 0 6 (vL N none ops) (fun W X=>X=sh):=by
 have _:=hN
 refine jW KM (fun k f W X=>an f 11= .i .i64 (k:Int)∧X=sh∧vL N none ops=vL N (Nb ops k) (ops.drop k)) ops.length ⟨V,rfl,rfl⟩ ?_ ?_
 ·rintro k f W _ K F ⟨D,rfl,I⟩
  have iU:(k:Int)<ops.length:=by omega
  have hw:wr .i64 ((k:Int)+1)=((k+1:Nat):Int):=by rw[jE (by omega)];omega
  have U:=fun kk=>ho.ia (sz:=1) (k:=k) (kk:=kk) (by rw[kb];omega) K
  simp only[Nat.mul_one]at U
  rw[pa ops k K]at U
  have Y:=j3 (alR zT aT fT r fc N hf ops[k])
  simp only[decide_eq_true_eq]at Y
  rw[List.drop_eq_getElem_cons K,F8]at I
  rw[Ie ops k K]
  by_cases O:k=0
  ·subst O
   have Z:Nb ops 0=none:=rfl
   rw[Z]at I
   have wY: ∀kk,ng oT (.i kk 0) 1=some (.vp (.i .i64 ops[0]::(ints ops).drop (0+1))):=fun kk=>U kk
   have aCT:an f 11= .i .i64 0:=D
   have JB:(0:Int)<ops.length:=iU
   simp(maxDischargeDepth:=6) only[qB,seval,gd,Bg,F,h0,h1,h9,E,aCT,JB,wY,Y,aro]
   clear F
   grind
  ·rw[Nc ops k K O]at I
   have y9:=fun kk=>ho.ia (sz:=1) (k:=k-1) (kk:=kk) (by rw[kb];omega) (by omega)
   simp only[Nat.mul_one]at y9
   rw[pa ops (k-1) (by omega)]at y9
   have FH:=ot (k:=k) (by omega) (by omega)
   have MT:(0:Int)<(k:Int):=by omega
   simp(maxDischargeDepth:=6) only[qB,seval,gd,Bg,F,h0,h1,h9,E,D,iU,hw,FH,MT,U,y9,Y,aro]
   clear F
   grind
 ·rintro f W _ F ⟨D,rfl,I⟩
  rw[List.drop_length,RK]at I
  simp only[qB,seval,gd,Bg,F,E,D,Int.lt_irrefl,I]
theorem aaG(H:Int):be pE 21 [.vp (zT::aT::fT::r),oT,.i .i64 H] []=some (.i .i64 (if vL N none ops=0 then(if H<0∨6<H then 5 else 0)else vL N none ops),[]):=by
 have D:=fun fr lh sh=>aCR zT aT fT r fc N hf hN ops oT ho hl fr lh sh
 have E:=ho.lenI
 rw[iD aq6 (by simp[c21])]
 simp(maxDischargeDepth:=6) only[qB,seval,c21,KM,E,D]
 clear D
 grind
end
end Go.Proofs.YtjniffjppoklpaaGreat
