/- Walks of functions of the program and of the reference, and their plain laws, part 17. Conditions: the theorems' own. -/
import Derived.Test.YtjniffjppoklpaaGreatM16
import Derived.KernelRfl
set_option maxRecDepth 100000
set_option linter.unusedSimpArgs false
set_option linter.unusedVariables false
set_option maxHeartbeats 16000000
namespace Go.Proofs.YtjniffjppoklpaaGreat
open Go Go.Ev
def Uy(H:Nat)(w:Nat→Int):T:= .sl (kH (H+1) w) (H+1) false
def aaH(N H:Nat)(w:Nat→Nat→Int):T:= .sl ((List.range N).map fun i=>Uy H (w i)) N false
def JS(r:List Nat)(f:Nat→Nat):Nat:=(r.map f).sum
theorem afC(N:Nat)(J:Nat→Bool)(f:Nat→Nat):JS ((List.range N).filter J) f=Sm N fun j=>rk (J j)*f j:=by
 induction N with
 |zero=>rfl
 |succ n ih=>
  rw[JO,Sm,←ih]
  cases h:J n
  ·simp[rk]
  ·simp[rk,JS]
theorem amC(N H:Nat)(w:Nat→Nat→Int)(i:Nat)(hi:i<N): ∃q,∀kk,ng (aaH N H w) (.i kk (i:Int)) 1=some (.vp (Uy H (w i)::q)):=by
 refine⟨((List.range N).map fun i=>Uy H (w i)).drop (i+1),fun kk=> ?_⟩
 unfold aaH
 rw[kG,if_pos ⟨by omega,by simpa using hi,by simp;omega⟩,Int.toNat_natCast,Nat.mul_one,List.drop_eq_getElem_cons (by simpa using hi)]
 simp
theorem afD(H:Nat)(w:Nat→Int)(h:Nat)(r:h≤H): ∃q,∀kk,ng (Uy H w) (.i kk (h:Int)) 1=some (.vp (.i .i64 (w h)::q)):=by
 refine⟨(kH (H+1) w).drop (h+1),fun kk=> ?_⟩
 unfold Uy
 rw[kG,if_pos ⟨by omega,by simp;omega,by rw[n6];simp;omega⟩,Int.toNat_natCast,Nat.mul_one,List.drop_eq_getElem_cons (by rw[n6];omega)]
 simp[kH]
theorem awa(N H:Nat)(w:Nat→Nat→Nat)(r:List Nat)(X: ∀j∈r,j<N)(O:r.length≤1000)(U:T)(D:iJ U r.length (ints (r.map Int.ofNat)))(h:Nat)(Y:h≤H)(fr:Fr)(lh:iL iy)(sh:List iy)(Z:an fr 0=aaH N H fun i g=>ni (w i g))(V:an fr 1=U)(h3:an fr 3= .i .i64 (h:Int))(h9:an fr 9= .i .i64 0)(I:an fr 10= .i .i64 0):
  Lp pE 34 Bl fr lh sh (.ext 0) fun f l s=>an f 9= .i .i64 (ni (JS r fun j=>w j h))∧l=lh∧s=sh:=by
 refine kO KT (fun k f l s=>an f 9= .i .i64 (ni (JS (r.take k) fun j=>w j h))∧an f 10= .i .i64 (k:Int)∧l=lh∧s=sh) r.length ⟨h9,I,rfl,rfl⟩ ?_ ?_
 ·rintro k f _ _ F J ⟨g9,E,rfl,rfl⟩
  have iU:(k:Int)<r.length:=by omega
  have hw:=iX (k:=k) (by omega)
  have W:=fun kk=>D.ia (sz:=1) (k:=k) (kk:=kk) (by rw[kb,List.length_map];omega) F
  have hd:(ints (r.map Int.ofNat)).drop (k*1)= .i .i64 (r[k]:Int)::(ints (r.map Int.ofNat)).drop (k+1):=by
   rw[Nat.mul_one,List.drop_eq_getElem_cons (by simpa[ints]using F)]
   simp[ints]
  rw[hd]at W
  have mI:JS (r.take (k+1)) (fun j=>w j h)=JS (r.take k) (fun j=>w j h)+w r[k] h:=by
   unfold JS;rw[List.take_succ_eq_append_getElem F,List.map_append,List.sum_append];simp
  obtain⟨q1,e1⟩:=amC N H (fun i g=>ni (w i g)) r[k] (X _ (List.getElem_mem F))
  obtain⟨q2,e2⟩:=afD H (fun g=>ni (w r[k] g)) h Y
  have K:=D.lenI
  rw[mI]
  generalize r[k]=x at*
  simp(maxDischargeDepth:=6) only[qA,seval,gd,Bl,J,Z,V,h3,g9,E,iU,hw,W,K,e1,e2,tj]
 ·rintro f _ _ J ⟨g9,E,rfl,rfl⟩
  rw[List.take_length]at g9
  have K:=D.lenI
  simp only[qA,seval,gd,Bl,J,V,g9,E,K,Int.lt_irrefl]
theorem afE(N H:Nat)(w:Nat→Nat→Nat)(r:List Nat)(K: ∀j∈r,j<N)(F:r.length≤1000)(I:T)(J:iJ I r.length (ints (r.map Int.ofNat)))(h:Nat)(O:h≤H)(E:Int)(hs:E≠1):be pE 24 [aaH N H fun i g=>ni (w i g),I,.i .i64 E,.i .i64 (h:Int)] []=some (.i .i64 (ni (JS r fun j=>w j h)),[]):=by
 rw[iD SV (by simp[c24])]
 simp(maxDischargeDepth:=6) only[qA,seval,c24,hs]
 generalize U:DC pE 34 (.loop Bl) _=D
 obtain⟨V,W,X,rfl,⟨g9,rfl,rfl⟩,Y⟩:=G6 KT U (awa N H w r K F I J h O _ _ _ (by simp only[qA,seval]) (by simp only[qA,seval]) (by simp only[qA,seval]) (by simp only[qA,seval]) (by simp only[qA,seval]))
 simp(maxDischargeDepth:=6) only[qA,seval,g9]
theorem aaI(D E:T)(h:Nat):be pE 24 [D,E,.i .i64 1,.i .i64 (h:Int)] []=some (.i .i64 (ni (vJ h)),[]):=by
 rw[iD SV (by simp[c24])]
 cases h with
 |zero=>
  have r:((0:Nat):Int)=0:=rfl
  simp(maxDischargeDepth:=6) only[qA,seval,c24,vJ,RE,Int.ofNat_zero,r]
 |succ h=>
  have F: ¬((h+1:Nat):Int)=0:=by omega
  simp(maxDischargeDepth:=6) only[qA,seval,c24,vJ,sr,F]
section
variable(t:Tt)(c:Ct)(zT aT fT a7 a8 a9 a10 iH iG:T)(hT:ue t zT aT fT)(hC:uF c a7 a8 a9 a10 iH iG)(hN:t.fl.length≤1000)
include hT hC hN
theorem rj1(i:Nat)(hi:i<t.fl.length)(fr:Fr)(lh:iL iy)(sh:List iy)(U:an fr 2= .ptr .L 2 1 0)(Z:an fr 3= .ptr .L 3 1 0)(h6:an fr 6= .i .i64 (i:Int))(h7:an fr 7= .nilsl)(h8:an fr 8= .i .i64 0)(o2:a6 lh 2=⟨1,.cells [zT,aT,fT] 0 true⟩)(o3:a6 lh 3=⟨1,.cells (jb c a7 a8 a9 a10 iH iG) 0 true⟩):
  Lp pE 37 yA fr lh sh (.ext 2) fun f l s=>s=sh∧jr l (an f 7) 31 1 (ln t.fl.length (jn c t.fl) i).length (ints ((ln t.fl.length (jn c t.fl) i).map Int.ofNat))∧(∀j,j≠31→a6 l j=a6 lh j):=by
 have V:=hT.f
 obtain⟨fc,f1,f2⟩:=V
 have W:=f1.lenI
 have X:=fun k (F:k<t.fl.length)=>MI t c zT aT fT a7 a8 a9 a10 iH iG hT hC (i:=(i:Int)) (j:=(k:Int)) (by unfold yy;simpa using hi) (by unfold yy;simpa using F)
 have hz:=DD t c zT aT fT a7 a8 a9 a10 iH iG hT hC
 unfold jb at*
 refine kO KK (fun k f l s=>an f 8= .i .i64 (k:Int)∧s=sh∧jr l (an f 7) 31 1 ((List.range k).filter fun j=>jn c t.fl i j).length (ints (((List.range k).filter fun j=>jn c t.fl i j).map Int.ofNat))∧(∀j,j≠31→a6 l j=a6 lh j)) t.fl.length ⟨h8,rfl,by rw[h7];exact jr.nil,fun _ _=>rfl⟩ ?_ ?_
 ·rintro k f l _ F J ⟨g8,rfl,E,D⟩
  have iU:(k:Int)<t.fl.length:=by omega
  have hw:=iX (k:=k) (by omega)
  have Y:=X k F
  rw[show yz c t.fl (i:Int) (k:Int)=jn c t.fl i k by rw[MH c t.fl hi F,aiZ hi F]]at Y
  have K:=(D 2 (by decide)).trans o2
  have q3:=(D 3 (by decide)).trans o3
  have hlen:((List.range k).filter fun j=>jn c t.fl i j).length≤k:=Cd (jn c t.fl i) k
  have O:=fun(je:iL iy) (jk:List iy) (e:a6 je 31=a6 l 31)=>qM (sh:=jk) (E.congr e) [.i .i64 (k:Int)] rfl (bytes:=8) (by unfold roomy;omega) true
  have DK:=E.notS
  rw[JO]
  generalize (List.range k).filter (fun j=>jn c t.fl i j)=r at*
  generalize I:an f 7=v7 at E O DK
  cases hb:jn c t.fl i k
  ·simp(maxDischargeDepth:=6) only[qA,seval,gd,yA,J,U,Z,h6,g8,K,q3,W,iU,hw,Y,hb,ajL,I,hz,O,DK,repl]
   exact⟨E,D⟩
  ·simp(maxDischargeDepth:=6) only[qA,seval,gd,yA,J,U,Z,h6,g8,K,q3,W,iU,hw,Y,hb,ajL,I,hz,O,DK,repl]
   obtain⟨_,k1,k2⟩:=O l _ rfl
   rw[show ints ((r++ [k]).map Int.ofNat)=ints (r.map Int.ofNat)++ [.i .i64 (k:Int)]by simp[ints],show(r++ [k]).length=r.length+1 by simp]
   exact⟨k1,fun j hj=>(k2 j hj).trans (D j hj)⟩
 ·rintro f l _ J ⟨g8,rfl,E,D⟩
  have K:=(D 2 (by decide)).trans o2
  simp only[qA,seval,gd,yA,J,U,K,g8,W,Int.lt_irrefl]
  exact⟨E,D⟩
theorem rj2(fr:Fr)(lh:iL iy)(sh:List iy)(F:an fr 2= .ptr .L 2 1 0)(U:an fr 3= .ptr .L 3 1 0)(h5:an fr 5= .nilsl)(h6:an fr 6= .i .i64 0)(o2:a6 lh 2=⟨1,.cells [zT,aT,fT] 0 true⟩)(o3:a6 lh 3=⟨1,.cells (jb c a7 a8 a9 a10 iH iG) 0 true⟩):
  Lp pE 37 Bf fr lh sh (.ext 0) fun f l s=>s=sh∧jr l (an f 5) 35 1 t.fl.length (((List.range t.fl.length).map (ln t.fl.length (jn c t.fl))).map qO):=by
 have Z:=hT.f
 obtain⟨fc,f1,f2⟩:=Z
 have lV:=f1.lenI
 refine kO KL (fun k f l s=>an f 6= .i .i64 (k:Int)∧s=sh∧jr l (an f 5) 35 1 k (((List.range k).map (ln t.fl.length (jn c t.fl))).map qO)∧(∀j,j≠31→j≠35→a6 l j=a6 lh j)) t.fl.length ⟨h6,rfl,by rw[h5];exact jr.nil,fun _ _ _=>rfl⟩ ?_ ?_
 ·rintro k f l s hk I ⟨J,rfl,hO,K⟩
  have iU:(k:Int)<t.fl.length:=by omega
  have hw:=iX (k:=k) (by omega)
  have V:=(K 2 (by decide) (by decide)).trans o2
  have q3:=(K 3 (by decide) (by decide)).trans o3
  simp(maxDischargeDepth:=6) only[qA,seval,gd,Bf,I,F,U,J,V,lV,iU,hw]
  generalize hD:DC pE 37 (.loop yA) _=D
  obtain⟨r,l2,s2,rfl,⟨rfl,RM,PN⟩,xQ⟩:=G6 KK hD (rj1 t c zT aT fT a7 a8 a9 a10 iH iG hT hC hN k hk _ _ _ (by simp only[qA,seval,I,F]) (by simp only[qA,seval,I,U]) (by simp only[qA,seval,J]) (by simp only[qA,seval]) (by simp only[qA,seval]) V q3)
  have e6:an r 6= .i .i64 (k:Int):=by rw[xQ 6 (by decide)];simp only[qA,seval,J]
  have e5:an r 5=an f 5:=by rw[xQ 5 (by decide)];simp only[qA,seval]
  have MP:=hO.congr (PN 35 (by decide))
  rw[←e5]at MP
  obtain⟨v7,e7⟩: ∃v,an r 7=v:=⟨_,rfl⟩
  obtain⟨v5,E⟩: ∃v,an r 5=v:=⟨_,rfl⟩
  rw[e7]at RM
  rw[E]at MP
  have ht:qO (ln t.fl.length (jn c t.fl) k)=ku (ln t.fl.length (jn c t.fl) k).length (ints ((ln t.fl.length (jn c t.fl) k).map Int.ofNat)):=by
   unfold ku qO
   simp only[List.length_eq_zero_iff]
  have DK:=MP.notS
  have W:=fun(v:T) (je:iL iy) (jk:List iy) (e:a6 je 35=a6 l2 35)=>qM (sh:=jk) (MP.congr e) [v] rfl (bytes:=24) (by unfold roomy;omega) true
  have wo:((List.range (k+1)).map (ln t.fl.length (jn c t.fl))).map qO=((List.range k).map (ln t.fl.length (jn c t.fl))).map qO++ [qO (ln t.fl.length (jn c t.fl) k)]:=by rw[List.range_succ,List.map_append,List.map_append];rfl
  rw[wo,ht]
  have PO: ∀j,j≠31→j≠35→a6 l2 j=a6 lh j:=fun j X F=>(PN j X).trans (K j X F)
  rcases RM with⟨X,rfl,U⟩|⟨g,wm,rfl,ho,hl,hp⟩
  ·simp(maxDischargeDepth:=6) only[qA,seval,gd,E,e6,e7,DK,W,hw,repl,X,U,ku]
   exact fun j Y O=>((W .nilsl l2 _ rfl).2.2 j O).trans (PO j Y O)
  ·have hp': ¬(ln t.fl.length (jn c t.fl) k).length=0:=by omega
   have hl':(ln t.fl.length (jn c t.fl) k).length≤(ints ((ln t.fl.length (jn c t.fl) k).map Int.ofNat)).length:=by omega
   have Ky:(ints ((ln t.fl.length (jn c t.fl) k).map Int.ofNat)).take (ln t.fl.length (jn c t.fl) k).length=ints ((ln t.fl.length (jn c t.fl) k).map Int.ofNat):=List.take_of_length_le (by omega)
   simp(maxDischargeDepth:=6) only[qA,seval,gd,E,e6,e7,DK,W,hw,repl,ho,hl',Ky,hp',ku]
   exact fun j Y O=>((W _ _ _ (by simp only[qA,seval])).2.2 j O).trans ((jF _ _ Y).trans (PO j Y O))
 ·rintro f l _ I ⟨J,rfl,hO,K⟩
  have V:=(K 2 (by decide) (by decide)).trans o2
  simp only[qA,seval,gd,Bf,I,F,V,J,lV,Int.lt_irrefl]
  exact hO
theorem Ce:be pE 20 [.agg [zT,aT,fT],.agg (jb c a7 a8 a9 a10 iH iG)] []=some (ku t.fl.length (((List.range t.fl.length).map (ln t.fl.length (jn c t.fl))).map qO),[]):=by
 have E:=DD t c zT aT fT a7 a8 a9 a10 iH iG hT hC
 have hL:=fun fr lh sh F I J K O U=>rj2 t c zT aT fT a7 a8 a9 a10 iH iG hT hC hN fr lh sh F I J K O U
 unfold jb at*
 rw[iD ajz (by simp[c20])]
 simp(maxDischargeDepth:=6) only[qA,seval,c20,E]
 generalize V:DC pE 37 (.loop Bf) _=D
 obtain⟨W,Y,Z,rfl,⟨rfl,X⟩,xQ⟩:=G6 KL V (hL _ _ _ (by simp only[qA,seval]) (by simp only[qA,seval]) (by simp only[qA,seval]) (by simp only[qA,seval]) (by simp only[qA,seval]) (by simp only[qA,seval]))
 have NX:=fun sh=>X.fzV (keep:=false) (sh:=sh)
 obtain⟨v5,r⟩: ∃v,an W 5=v:=⟨_,rfl⟩
 rw[r]at NX
 simp(maxDischargeDepth:=6) only[qA,yU,seval,r,NX]
theorem aCW(ops:List Int)(oT:T)(ho:iJ oT ops.length (ints ops))(hl:ops.length≤1000)(fr:Fr)(lh:iL iy)(sh:List iy)(Y:an fr 1=oT)(h2:an fr 2= .ptr .L 2 1 0)(h4:an fr 4= .nilsl)(h6:an fr 6= .isl .L 11 1 0 t.fl.length 1)(h7:an fr 7= .i .i64 0)(I:a6 lh 2=⟨1,.cells [zT,aT,fT] 0 true⟩)(r:a6 lh 11=⟨1,.cells (sC (nl t.fl.length [])) 0 false⟩):
  Lp pE 54 tn fr lh sh (if vL t.fl.length none ops=0 then .ext 0 else .ret) fun f l s=>s=sh∧(vL t.fl.length none ops=0→a6 l 11=⟨1,.cells (sC (nl t.fl.length ops)) 0 false⟩)∧(vL t.fl.length none ops≠0→an f 4= .nilsl∧an f 5= .i .i64 (vL t.fl.length none ops)):=by
 have _:=hC
 have _:=hN
 have hf0:=hT.f
 obtain⟨fc,f1,f2⟩:=hf0
 have E:=f1.lenI
 have Z:=ho.lenI
 generalize hR:vL t.fl.length none ops=R
 refine kO KS (fun k f l s=>an f 7= .i .i64 (k:Int)∧an f 4= .nilsl∧s=sh∧a6 l 2=⟨1,.cells [zT,aT,fT] 0 true⟩∧a6 l 11=⟨1,.cells (sC (nl t.fl.length (ops.take k))) 0 false⟩∧R=vL t.fl.length (Nb ops k) (ops.drop k)) ops.length ⟨h7,h4,rfl,I,r,hR.symm⟩ ?_ ?_
 ·rintro k f l _ hk K ⟨O,g4,rfl,I,r,D⟩
  have iU:(k:Int)<ops.length:=by omega
  have hw:wr .i64 ((k:Int)+1)=((k+1:Nat):Int):=by rw[jE (by omega)];omega
  have U:=fun kk=>ho.ia (sz:=1) (k:=k) (kk:=kk) (by rw[kb];omega) hk
  simp only[Nat.mul_one]at U
  rw[pa ops k hk]at U
  rw[List.drop_eq_getElem_cons hk,F8]at D
  rw[Ie ops k hk]
  have wo:=M7 t.fl.length (ops.take k) ops[k]
  rw[←List.take_succ_eq_append_getElem hk]at wo
  have wg:=vK t.fl.length (ops.take k)
  by_cases hx:0≤ops[k]∧ops[k]<(t.fl.length:Int)
  ·obtain⟨J,xN⟩:=hx
   have V: ¬ops[k]<0:=by omega
   have W: ¬(t.fl.length:Int)≤ops[k]:=by omega
   have wo:=wo J xN
   rw[if_pos ⟨J,xN⟩]at D
   have xn:ops[k].toNat<t.fl.length:=by omega
   have X:ops[k].toNat+1≤t.fl.length:=by omega
   by_cases h0':k=0
   ·subst h0'
    have hp0:Nb ops 0=none:=rfl
    rw[hp0]at D
    have wY: ∀kk,ng oT (.i kk 0) 1=some (.vp (.i .i64 ops[0]::(ints ops).drop (0+1))):=fun kk=>U kk
    have g70:an f 7= .i .i64 0:=O
    have JB:(0:Int)<ops.length:=iU
    generalize sC (nl t.fl.length (ops.take 0))=B at*
    generalize hB:sC (nl t.fl.length (ops.take (0+1)))=B' at*
    simp(maxDischargeDepth:=6) only[qA,jw,oW,iN,seval,gd,tn,K,Y,h2,h6,g70,g4,Z,E,JB,wY,I,r,J,V,W,xn,X,wg,wo]
    exact D
   ·rw[Nc ops k hk h0']at D
    have y9:=fun kk=>ho.ia (sz:=1) (k:=k-1) (kk:=kk) (by rw[kb];omega) (by omega)
    simp only[Nat.mul_one]at y9
    rw[pa ops (k-1) (by omega)]at y9
    have FH:=ot (k:=k) (by omega) (by omega)
    have MT:(0:Int)<(k:Int):=by omega
    generalize sC (nl t.fl.length (ops.take k))=B at*
    generalize hB:sC (nl t.fl.length (ops.take (k+1)))=B' at*
    dsimp only at D
    by_cases F:ops[k]≤ops[k-1]
    ·rw[if_pos F]at D
     subst D
     simp(maxDischargeDepth:=6) only[qA,jw,oW,iN,seval,gd,tn,K,Y,h2,h6,O,g4,Z,E,iU,hw,FH,MT,U,y9,I,r,J,V,W,xn,X,wg,wo,F]
     exact⟨False.elim,fun _=>trivial⟩
    ·rw[if_neg F]at D
     simp(maxDischargeDepth:=6) only[qA,jw,oW,iN,seval,gd,tn,K,Y,h2,h6,O,g4,Z,E,iU,hw,FH,MT,U,y9,I,r,J,V,W,xn,X,wg,wo,F]
     exact D
  ·rw[if_neg hx]at D
   subst D
   by_cases J:ops[k]<0
   ·simp(maxDischargeDepth:=6) only[qA,jw,oW,iN,seval,gd,tn,K,Y,h2,h6,O,g4,Z,E,iU,hw,U,I,r,J]
    exact⟨False.elim,fun _=>trivial⟩
   ·have xN:(t.fl.length:Int)≤ops[k]:=by omega
    simp(maxDischargeDepth:=6) only[qA,jw,oW,iN,seval,gd,tn,K,Y,h2,h6,O,g4,Z,E,iU,hw,U,I,r,J,xN]
    exact⟨False.elim,fun _=>trivial⟩
 ·rintro f l _ K ⟨O,g4,rfl,I,r,D⟩
  rw[List.drop_length,RK]at D
  rw[List.take_length]at r
  subst D
  simp only[qA,seval,gd,tn,K,Y,Z,O,Int.lt_irrefl,r]
  exact⟨fun _=>trivial,False.elim⟩
theorem aaJ(ops:List Int)(E:T)(O:iJ E ops.length (ints ops))(U:ops.length≤1000):be pE 23 [.agg [zT,aT,fT],E] []=some (if vL t.fl.length none ops=0 then .tup [.sl (sC (nl t.fl.length ops)) t.fl.length false,.i .i64 0]else .tup [.nilsl,.i .i64 (vL t.fl.length none ops)],[]):=by
 have V:=DD t c zT aT fT a7 a8 a9 a10 iH iG hT hC
 have hL:=fun fr lh sh=>aCW t c zT aT fT a7 a8 a9 a10 iH iG hT hC hN ops E O U fr lh sh
 have F:=hT.f
 obtain⟨fc,W,f2⟩:=F
 have I:=W.lenI
 have X:t.fl.length*1≤roomy:=by unfold roomy;omega
 have J:t.fl.length≤roomy:=by unfold roomy;omega
 have A9:repl [T.b false] t.fl.length=sC (nl t.fl.length []):=by
  rw[RC]
  generalize t.fl.length=N
  induction N with
  |zero=>rfl
  |succ n ih=>rw[repl,ih,List.replicate_succ];rfl
 have Y:=vK t.fl.length ops
 have Ky:(sC (nl t.fl.length ops)).take t.fl.length=sC (nl t.fl.length ops):=List.take_of_length_le (by omega)
 rw[iD ajB (by simp[c23])]
 simp(maxDischargeDepth:=6) only[qA,seval,c23,V,I,X,J,A9]
 generalize Z:DC pE 54 (.loop tn) _=D
 obtain⟨K,l2,s2,rfl,⟨rfl,hA,hB⟩,xQ⟩:=G6 KS Z (hL _ _ _ (by simp only[qA,seval]) (by simp only[qA,seval]) (by simp only[qA,seval]) (by simp only[qA,seval]) (by simp only[qA,seval]) (by simp only[qA,seval]) (by simp only[qA,seval]))
 have e6:an K 6= .isl .L 11 1 0 t.fl.length 1:=by rw[xQ 6 (by decide)];simp only[qA,seval]
 by_cases r:vL t.fl.length none ops=0
 ·have hA:=hA r
  simp(maxDischargeDepth:=6) only[qA,yU,seval,r,e6,hA,Y,Ky]
 ·obtain⟨b1,b2⟩:=hB r
  simp(maxDischargeDepth:=6) only[qA,yU,seval,r,b1,b2]
end
end Go.Proofs.YtjniffjppoklpaaGreat
namespace Go.Ev
open Go
def tD(r:List FP)(i:Nat):Bool:=match iN ⟨true,[],[]⟩ r i with
 |⟨false,_,[]⟩=>true
 |_=>false
theorem JT{D:List FP}{i:Nat}{r:List (Sp×Nat)}(h:tD D i=true):apart (iN ⟨true,[],[]⟩ D i) ⟨false,r,[]⟩=true:=by
 unfold tD at h
 split at h
 ·rename_i q E
  rw[E]
  have:nq q []=true:=by unfold nq;rw[List.all_eq_true];intro x _;rfl
  unfold apart
  simp only[this]
  rfl
 ·cases h
theorem JU{E:Env}{r:qT}{n:Nat}{fr:Fr}{lh:iL iy}{sh:List iy}{F:List (List Nat×iz)}{J:List FP}{u:List Nat}{d:Option Nat}{f:Nat}{af:iC}{D:List iS}(U:E.fn f=some af)(V:af.eff=false)(W:af.own=none){q:List T×List Up}(I:Dn lh sh false (D.map (rd fr))=some q){v:T}{s:List iy}(X:r f q.1 []=some (v,s))(Y:scalar v=true)(Z:SS F=true)(O:u.all (tD J)=true):
  jc E r n ((u,⟨d,.callf f D,none⟩)::F) J ⟨fr,lh,sh⟩=ke E r n F (J++ [oe]) (iB E r n [⟨d,.callf f D,none⟩] ⟨fr,lh,sh⟩):=by
 have K:js E r n ⟨d,.callf f D,none⟩ ⟨fr,lh,sh⟩≠none→jS E r ⟨d,.callf f D,none⟩ ⟨fr,lh,sh⟩=some ⟨false,(jm (fz false iT) (D.map (rd fr))).log (St.mk fr lh sh).get sh.length,[]⟩:=by
  intro mR
  unfold jS mz
  have De:jL (St.mk fr lh sh).rho (.callf f D)=some (some (f,D.map (rd fr))):=by rw[lU];rfl
  unfold Dn at I
  rw[←rY (fr:=fr)]at I
  simp only[De,U,V,I]
  have lN:nl (St.mk fr lh sh) q.2=true:=Av (fun t p h=>O3 _ _ t p h) _ _ I
  simp only[lN,Bool.not_true,Bool.false_eq_true,if_false,W,X,Y,if_true]
 rw[vn K,if_pos]
 ·unfold ke
  cases iB E r n [⟨d,.callf f D,none⟩] ⟨fr,lh,sh⟩with
  |none=>rfl
  |some s=>exact Ft F _ _ s Z
 ·unfold meets
  rw[List.all_eq_true]at O ⊢
  exact fun i hi=>JT (O i hi)
end Go.Ev
namespace Go.Proofs.YtjniffjppoklpaaGreat
open Go Go.Ev
def wA(b:Bool)(p:Nat→Nat)(h:Nat):Nat:=rk b*p h+sf p h
theorem PQ(a:Nat):wr .i64 (0+ni a)=ni a:=by rw[Int.zero_add,aaD]
theorem rc1(N H i:Nat)(hi:i<N)(hN:N≤1000)(hH:H≤6)(B P:Nat)(hP:P=B+1+i)(lW nT J wT:T)(b:Bool)(q1 q2:List T)(lN: ∀kk,ng lW (.i kk (i:Int)) 1=some (.vp (.b b::q1)))(mI: ∀kk,ng nT (.i kk (i:Int)) 1=some (.vp (J::q2)))(F:froz J=true)(C:Nat→Nat)(r:Int)(If: ∀h,h≤H→be pE 24 [wT,J,.i .i64 r,.i .i64 (h:Int)] []=some (.i .i64 (ni (C h)),[]))
  (cb:List T) (X:cb[i]? =some (.isl .S P 1 0 (H+1) 1)) (ls:cb.length=N) (kw:Nat) (T0:Nat) (K:List iy) (hwz: ∀s,(∀k,k<B→iM s k=iM K k)→ ∃us,∀lh,fzV lh s false (.isl .S kw 1 0 N 1)=some (wT,us))
  (fr:Fr) (lh:iL iy) (h3:an fr 3= .i .i64 (H:Int)) (Y:an fr 11=lW) (nD:an fr 13=nT) (nj:an fr 15= .isl .S kw 1 0 N 1) (sy:an fr 16= .i .i64 (ni T0)) (pH:an fr 17= .i .i64 r) (mK:an fr 18= .isl .S B 1 0 N 1) (zd:an fr 19= .i .i64 (i:Int)) (h20:an fr 20= .i .i64 0) (hB:iM K B=⟨1,.cells cb 0 true⟩) (hR:iM K P=⟨1,.cells (kH (H+1) fun _=>0) 0 false⟩) (hlen:P<K.length):
  Lp pE 134 uH fr lh K (.ext 4) fun f l s=>l=lh∧s.length=K.length∧iM s P=⟨1,.cells (kH (H+1) fun h=>ni (wA b C h)) 0 false⟩∧(∀k,k≠P→iM s k=iM K k)∧an f 16= .i .i64 (ni (T0+Sm (H+1) (wA b C))):=by
 refine kO KE (fun k f l s=>an f 20= .i .i64 (k:Int)∧l=lh∧s.length=K.length∧iM s P=⟨1,.cells (kH (H+1) fun h=>if h<k then ni (wA b C h)else 0) 0 false⟩∧(∀k,k≠P→iM s k=iM K k)∧an f 16= .i .i64 (ni (T0+Sm k (wA b C)))) (H+1) ⟨h20,rfl,rfl,by rw[hR];rfl,fun _ _=>rfl,sy⟩ ?_ ?_
 ·rintro k f l s O pr ⟨U,rfl,hl,hr,lS,DM⟩
  have iU:(k:Int)≤(H:Int):=by omega
  have hw:=iX (k:=k) (by omega)
  have hPB: ¬B=P:=by omega
  have I:iM s B=⟨1,.cells cb 0 true⟩:=(lS B hPB).trans hB
  obtain⟨u1,z1⟩:=hwz s fun j hj=>lS j (by omega)
  have e1:=If k (by omega)
  have Vd:i+1≤N:=hi
  have PG:k+1≤H+1:=O
  generalize hr0:(fun h=>if h<k then ni (wA b C h)else 0)=r0 at hr
  have V:=pF (H+1) r0 O
  have awc:r0 k=0:=by rw[←hr0];simp
  rw[awc]at V
  have Z:=n6 (H+1)
  have rP:=fun v=>uv (H+1) r0 k v O
  have hd1: ∀fr D E (u:List Nat),an fr 88= .isl .S kw 1 0 N 1→an fr 92=J→an fr 93= .i .i64 r→an fr 94= .i .i64 (k:Int)→SS D=true→u.all (tD E)=true→jc pE (be pE) 134 ((u,⟨some 95,.callf 24 [.t 88,.t 92,.t 93,.t 94],none⟩)::D) E ⟨fr,l,s⟩=ke pE (be pE) 134 D (E++ [oe]) (iB pE (be pE) 134 [⟨some 95,.callf 24 [.t 88,.t 92,.t 93,.t 94],none⟩] ⟨fr,l,s⟩):=by
   intro fr D E u g1 g2 g3 g4 hu hq
   refine JU SV rfl rfl (q:=([wT,J,.i .i64 r,.i .i64 (k:Int)],u1)) ?_ e1 rfl hu hq
   simp(maxDischargeDepth:=6) only[qA,seval,g1,g2,g3,g4,z1,F]
  have awd: ∀(v:Int),v=ni (wA b C k)→kH (H+1) (fun g=>if g=k then v else r0 g)=kH (H+1) fun g=>if g<k+1 then ni (wA b C g)else 0:=by
   intro v hv
   refine nA fun g=> ?_
   rw[←hr0]
   by_cases e:g=k
   ·subst e;simp[hv]
   ·by_cases e2:g<k
    ·simp[e,e2,Nat.lt_succ_of_lt e2]
    ·have: ¬g<k+1:=by omega
     simp[e,e2,this]
  have AP:Sm (k+1) (wA b C)=Sm k (wA b C)+wA b C k:=rfl
  have amG: ∀(v:Int),v=ni (wA b C k)→(iR s P ⟨1,.cells (kH (H+1) fun g=>if g=k then v else r0 g) 0 false⟩).length=K.length∧iy.mk 1 (.cells (kH (H+1) fun g=>if g=k then v else r0 g) 0 false)=⟨1,.cells (kH (H+1) fun h=>if h<k+1 then ni (wA b C h)else 0) 0 false⟩∧(∀(j:Nat),¬j=P→iM (iR s P ⟨1,.cells (kH (H+1) fun g=>if g=k then v else r0 g) 0 false⟩) j=iM K j)∧T.i .i64 (ni (T0+Sm k (wA b C)+wA b C k))= .i .i64 (ni (T0+(Sm k (wA b C)+wA b C k))):=fun v hv=>⟨by rw[jQ _ _ _ (by omega)];exact hl,by rw[awd v hv],fun j hj=>by rw[lD,if_neg hj];exact lS j hj,by rw[Nat.add_assoc]⟩
  by_cases JB:k=0
  ·subst JB
   have awe:(0:Int)≤(H:Int):=iU
   have awf:an f 20= .i .i64 0:=U
   have e10:be pE 24 [wT,J,.i .i64 r,.i .i64 0] []=some (.i .i64 (ni (C 0)),[]):=e1
   have xY: ∀v,iM (iR s P ⟨1,.cells v 0 false⟩) P=⟨1,.cells v 0 false⟩:=fun v=>by rw[lD,if_pos rfl]
   have pY: ∀v,iM (iR s P ⟨1,.cells v 0 false⟩) B=⟨1,.cells cb 0 true⟩:=fun v=>by rw[lD,if_neg hPB];exact I
   have W:=fun v=>pF (H+1) (fun g=>if g=0 then v else r0 g) O
   cases b
   ·have hv:(0:Int)=ni (wA false C 0):=by simp[wA,rk,sf,sr]
    have IP:wA false C 0=0:=by simp[wA,rk,sf]
    simp(maxDischargeDepth:=6) only[qA,jw,oW,jA,iN,seval,gd,uH,pr,h3,Y,nD,nj,pH,mK,zd,awf,DM,awe,hw,lN,mI,hi,Vd,X,ls,I,hr,O,PG,V,Z,F]
    refine⟨hl, ?_,lS, ?_⟩
    ·rw[←awd _ hv]
     refine congrArg (fun c=>iy.mk 1 (.cells c 0 false)) (nA fun g=> ?_)
     by_cases e:g=0
     ·rw[if_pos e,e,awc]
     ·rw[if_neg e]
    ·rw[AP,IP,Int.add_zero,aaD];rfl
   ·have Xx:wr .i64 (0+ni (C 0))=ni (wA true C 0):=by rw[PQ];simp[wA,rk,sf]
    have aC1: ∀fr D E (u:List Nat),an fr 88= .isl .S kw 1 0 N 1→an fr 92=J→an fr 93= .i .i64 r→an fr 94= .i .i64 0→SS D=true→u.all (tD E)=true→jc pE (be pE) 134 ((u,⟨some 95,.callf 24 [.t 88,.t 92,.t 93,.t 94],none⟩)::D) E ⟨fr,l,s⟩=ke pE (be pE) 134 D (E++ [oe]) (iB pE (be pE) 134 [⟨some 95,.callf 24 [.t 88,.t 92,.t 93,.t 94],none⟩] ⟨fr,l,s⟩):=fun fr D E u g1 g2 g3 g4=>hd1 fr D E u g1 g2 g3 g4
    simp(maxDischargeDepth:=6) only[qA,jw,oW,jA,iN,seval,gd,uH,pr,h3,Y,nD,nj,pH,mK,zd,awf,DM,awe,hw,lN,mI,hi,Vd,X,ls,I,hr,O,PG,V,Z,rP,aC1,e10,z1,F,ajC,pY,xY,W,CU,qK,T1,tD,Xx,tj]
    exact amG _ rfl
  ·obtain⟨m,rfl⟩: ∃m,k=m+1:=⟨k-1,by omega⟩
   have MT:(0:Int)<((m+1:Nat):Int):=by omega
   have hwp:wr .i64 (((m+1:Nat):Int)-1)=(m:Int):=by rw[jE (by omega)];omega
   have e2:=If m (by omega)
   have pY: ∀v,iM (iR s P ⟨1,.cells v 0 false⟩) B=⟨1,.cells cb 0 true⟩:=fun v=>by rw[lD,if_neg hPB];exact I
   have xY: ∀v,iM (iR s P ⟨1,.cells v 0 false⟩) P=⟨1,.cells v 0 false⟩:=fun v=>by rw[lD,if_pos rfl]
   cases b
   ·have IP:wr .i64 (0+ni (C m))=ni (wA false C (m+1)):=by rw[PQ];simp[wA,rk,sf]
    have hd2: ∀fr D E (u:List Nat),an fr 112= .isl .S kw 1 0 N 1→an fr 116=J→an fr 117= .i .i64 r→an fr 119= .i .i64 (m:Int)→SS D=true→u.all (tD E)=true→jc pE (be pE) 134 ((u,⟨some 120,.callf 24 [.t 112,.t 116,.t 117,.t 119],none⟩)::D) E ⟨fr,l,s⟩=ke pE (be pE) 134 D (E++ [oe]) (iB pE (be pE) 134 [⟨some 120,.callf 24 [.t 112,.t 116,.t 117,.t 119],none⟩] ⟨fr,l,s⟩):=by
     intro fr D E u g1 g2 g3 g4 hu hq
     refine JU SV rfl rfl (q:=([wT,J,.i .i64 r,.i .i64 (m:Int)],u1)) ?_ e2 rfl hu hq
     simp(maxDischargeDepth:=6) only[qA,seval,g1,g2,g3,g4,z1,F]
    have W:=fun v=>pF (H+1) (fun g=>if g=m+1 then v else r0 g) O
    simp(maxDischargeDepth:=6) only[qA,jw,oW,jA,iN,seval,gd,uH,pr,h3,Y,nD,nj,pH,mK,zd,U,DM,iU,hw,lN,mI,hi,Vd,X,ls,I,hr,O,PG,V,Z,rP,hd2,MT,hwp,e2,z1,F,ajC,pY,xY,W,CU,qK,T1,tD,IP,tj,AP]
    exact amG _ rfl
   ·have Xx:wr .i64 (0+ni (C (m+1)))=ni (C (m+1)):=PQ _
    have IP:ni (C (m+1)+C m)=ni (wA true C (m+1)):=by simp[wA,rk,sf]
    obtain⟨u2,z2⟩:=hwz (iR s P ⟨1,.cells (kH (H+1) fun g=>if g=m+1 then ni (C (m+1))else r0 g) 0 false⟩) fun j hj=>by rw[lD,if_neg (by omega)];exact lS j (by omega)
    have hd2: ∀fr D E (u:List Nat),an fr 112= .isl .S kw 1 0 N 1→an fr 116=J→an fr 117= .i .i64 r→an fr 119= .i .i64 (m:Int)→SS D=true→u.all (tD E)=true→jc pE (be pE) 134 ((u,⟨some 120,.callf 24 [.t 112,.t 116,.t 117,.t 119],none⟩)::D) E ⟨fr,l,iR s P ⟨1,.cells (kH (H+1) fun g=>if g=m+1 then ni (C (m+1))else r0 g) 0 false⟩⟩=ke pE (be pE) 134 D (E++ [oe]) (iB pE (be pE) 134 [⟨some 120,.callf 24 [.t 112,.t 116,.t 117,.t 119],none⟩] ⟨fr,l,iR s P ⟨1,.cells (kH (H+1) fun g=>if g=m+1 then ni (C (m+1))else r0 g) 0 false⟩⟩):=by
     intro fr D E u g1 g2 g3 g4 hu hq
     refine JU SV rfl rfl (q:=([wT,J,.i .i64 r,.i .i64 (m:Int)],u2)) ?_ e2 rfl hu hq
     simp(maxDischargeDepth:=6) only[qA,seval,g1,g2,g3,g4,z2,F]
    have W:=fun v=>pF (H+1) (fun g=>if g=m+1 then v else r0 g) O
    have A4:=fun v1 v2=>uv (H+1) (fun g=>if g=m+1 then v1 else r0 g) (m+1) v2 O
    have hmg: ∀(v1 v2:Int),(fun g=>if g=m+1 then v2 else if g=m+1 then v1 else r0 g)=fun g=>if g=m+1 then v2 else r0 g:=fun v1 v2=>funext fun g=>by by_cases e:g=m+1 <;> simp[e]
    simp(maxDischargeDepth:=6) only[qA,jw,oW,jA,iN,seval,gd,uH,pr,h3,Y,nD,nj,pH,mK,zd,U,DM,iU,hw,lN,mI,hi,Vd,X,ls,I,hr,O,PG,V,Z,rP,hd1,hd2,MT,hwp,e1,e2,z1,z2,F,ajC,pY,xY,W,A4,CU,qK,T1,tD,Xx,IP,tj,AP,kD,hmg]
    exact amG _ rfl
 ·rintro f _ s pr ⟨U,rfl,hl,hr,lS,DM⟩
  have iU: ¬((H+1:Nat):Int)≤(H:Int):=by omega
  have e:kH (H+1) (fun h=>if h<H+1 then ni (wA b C h)else 0)=kH (H+1) fun h=>ni (wA b C h):=by
   unfold kH
   refine List.map_congr_left fun g hg=> ?_
   dsimp only
   rw[if_pos (List.mem_range.1 hg)]
  rw[e]at hr
  simp only[qA,seval,gd,uH,pr,h3,U,iU]
  exact⟨hl,hr,lS,DM⟩
theorem Nd{α:Type}{s:List iy}{nx m:Nat}(f g:α→T): ∀(l:List α),(∀a∈l,∃us,∀r:Sp→Nat→iy,(∀k,r .S k=iM s k)→(fz false m (f a)).run r nx=some (g a,us))→ ∃us,∀r:Sp→Nat→iy,(∀k,r .S k=iM s k)→(jm (fz false m) (l.map f)).run r nx=some (l.map g,us)
 | [],_=>⟨[],fun _ _=>rfl⟩
 |a::l,h=>by
  obtain⟨E,F⟩:=h a List.mem_cons_self
  obtain⟨I,J⟩:=Nd f g l fun b K=>h b (List.mem_cons_of_mem _ K)
  refine⟨E++I,fun r D=> ?_⟩
  simp only[List.map_cons,jm,jq,F r D,J r D,Option.bind_some,Q.run]
structure Tb (s:List iy) (kw N H:Nat) (w:Nat→Nat→Int):Prop where
 n:iM s kw=⟨1,.cells ((List.range N).map fun i=> .isl .S (kw+1+i) 1 0 (H+1) 1) 0 true⟩
 r: ∀i,i<N→iM s (kw+1+i)=⟨1,.cells (kH (H+1) (w i)) 0 false⟩
theorem Tb.fz{s:List iy}{D N H:Nat}{w:Nat→Nat→Int}(h:Tb s D N H w): ∃us,∀lh,fzV lh s false (.isl .S D 1 0 N 1)=some (aaH N H w,us):=by
 obtain⟨us,e⟩:=Nd (s:=s) (nx:=s.length) (m:=7) (fun i=>T.isl .S (D+1+i) 1 0 (H+1) 1) (fun i=>Uy H (w i)) (List.range N) fun i hi=>by
  have hi:=List.mem_range.1 hi
  refine⟨[(.S,D+1+i,⟨1,.cells (kH (H+1) (w i)) (kH (H+1) (w i)).length false⟩)],fun I F=> ?_⟩
  unfold Ev.fz
  simp only[Bool.false_and,Bool.false_eq_true,if_false,Q.run,F,h.r i hi,if_true]
  rw[if_pos (by rw[n6];omega)]
  simp only[Q.run]
  rw[List.drop_zero,Nat.mul_one,List.take_of_length_le (by rw[n6];omega)]
  rfl
 refine⟨us++ [(.S,D,⟨1,.cells ((List.range N).map fun i=> .isl .S (D+1+i) 1 0 (H+1) 1) ((List.range N).map fun i=>T.isl .S (D+1+i) 1 0 (H+1) 1).length true⟩)],fun lh=> ?_⟩
 have E: ∀k,(St.mk .nil lh s).get .S k=iM s k:=fun _=>rfl
 unfold fzV iT Ev.fz
 simp only[Bool.false_and,Bool.false_eq_true,if_false,Q.run,E,h.n,if_true]
 rw[if_pos (by simp),List.drop_zero,Nat.mul_one,List.take_of_length_le (by simp),jq,e _ E]
 rfl
theorem amH{s:List iy}{r N:Nat}(h:iM s r=⟨1,.cells (List.replicate N .nilsl) 0 true⟩): ∃us,∀lh,fzV lh s false (.isl .S r 1 0 N 1)=some (.sl (List.replicate N .nilsl) N false,us):=by
 have e: ∀(n:Nat) (D:Sp→Nat→iy) (nx:Nat),(jm (Ev.fz false 7) (List.replicate n .nilsl)).run D nx=some (List.replicate n .nilsl,[]):=by
  intro n D nx
  induction n with
  |zero=>rfl
  |succ n ih=>
   simp only[List.replicate_succ,jm,jq,ih]
   rfl
 refine⟨[]++ [(.S,r,⟨1,.cells (List.replicate N .nilsl) (List.replicate N T.nilsl).length true⟩)],fun lh=> ?_⟩
 have E: ∀k,(St.mk .nil lh s).get .S k=iM s k:=fun _=>rfl
 unfold fzV iT Ev.fz
 simp only[Bool.false_and,Bool.false_eq_true,if_false,Q.run,E,h,if_true]
 rw[if_pos (by simp),List.drop_zero,Nat.mul_one,List.take_of_length_le (by simp),jq,e]
 rfl
def DP(B H N i:Nat):List T:=(List.range N).map fun j=>if j<i then .isl .S (B+1+j) 1 0 (H+1) 1 else .nilsl
theorem JV(B H N i:Nat):(DP B H N i).length=N:=by simp[DP]
theorem afG(B H N i:Nat)(hi:i<N):splice (DP B H N i) i [.isl .S (B+1+i) 1 0 (H+1) 1]=DP B H N (i+1):=by
 rw[sq _ _ _ (by rw[JV];exact hi)]
 refine List.ext_getElem (by simp[DP]) fun j D E=> ?_
 rw[List.getElem_set]
 simp only[DP,List.getElem_map,List.getElem_range]
 by_cases e:i=j
 ·subst e;simp
 ·rw[if_neg e]
  by_cases r:j<i
  ·rw[if_pos r,if_pos (by omega)]
  ·rw[if_neg r,if_neg (by omega)]
theorem afH(B H N i:Nat)(hi:i<N):(DP B H N (i+1))[i]? =some (.isl .S (B+1+i) 1 0 (H+1) 1):=by
 unfold DP
 rw[List.getElem?_map,List.getElem?_range hi]
 simp
section
variable(N H:Nat)(hN:N≤1000)(hH:H≤6)(lW nT:T)(iQ:Nat→Bool)(nx:Nat→List Nat)(lN: ∀f,f<N→ ∃q,∀kk,ng lW (.i kk (f:Int)) 1=some (.vp (.b (iQ f)::q)))(mI: ∀f,f<N→ ∃q,∀kk,ng nT (.i kk (f:Int)) 1=some (.vp (qO (nx f)::q)))
include hN hH lN mI
theorem rc2(B:Nat)(V:T)(C:Nat→Nat→Nat)(r:Int)(If: ∀i h,i<N→h≤H→be pE 24 [V,qO (nx i),.i .i64 r,.i .i64 (h:Int)] []=some (.i .i64 (ni (C i h)),[]))(W:Nat)(T0:Nat)(I:List iy)(X: ∀s,(∀k,k<B→iM s k=iM I k)→ ∃us,∀lh,fzV lh s false (.isl .S W 1 0 N 1)=some (V,us))
  (fr:Fr) (lh:iL iy) (h3:an fr 3= .i .i64 (H:Int)) (Y:an fr 11=lW) (nD:an fr 13=nT) (jG:an fr 14= .i .i64 (N:Int)) (nj:an fr 15= .isl .S W 1 0 N 1) (sy:an fr 16= .i .i64 (ni T0)) (pH:an fr 17= .i .i64 r) (mK:an fr 18= .isl .S B 1 0 N 1) (zd:an fr 19= .i .i64 0) (hB:iM I B=⟨1,.cells (DP B H N 0) 0 true⟩) (hlen:I.length=B+1):
  Lp pE 134 Bb fr lh I (.ext 2) fun f l s=>l=lh∧s.length=B+1+N∧Tb s B N H (fun i h=>ni (wA (iQ i) (C i) h))∧(∀k,k<B→iM s k=iM I k)∧an f 16= .i .i64 (ni (T0+Sm N fun i=>Sm (H+1) (wA (iQ i) (C i)))):=by
 refine kO KF (fun i f l s=>an f 19= .i .i64 (i:Int)∧l=lh∧s.length=B+1+i∧iM s B=⟨1,.cells (DP B H N i) 0 true⟩∧(∀j,j<i→iM s (B+1+j)=⟨1,.cells (kH (H+1) fun h=>ni (wA (iQ j) (C j) h)) 0 false⟩)∧(∀k,k<B→iM s k=iM I k)∧an f 16= .i .i64 (ni (T0+Sm i fun i=>Sm (H+1) (wA (iQ i) (C i))))) N ⟨zd,rfl,by omega,hB,fun j Z=>absurd Z (Nat.not_lt_zero j),fun _ _=>rfl,sy⟩ ?_ ?_
 ·rintro i f l s hi F ⟨E,rfl,J,K,hr,O,DM⟩
  have Hu:(i:Int)<(N:Int):=by omega
  have hw:=iX (k:=i) (by omega)
  have FH:wr .i64 ((H:Int)+1)=((H+1:Nat):Int):=by rw[jE (by omega)];omega
  obtain⟨q1,z1⟩:=lN i hi
  obtain⟨q2,z2⟩:=mI i hi
  have Vd:i+1≤N:=hi
  have ls:=JV B H N i
  have pY:=afG B H N i hi
  have A9:repl [T.i .i64 0] (H+1)=kH (H+1) fun _=>0:=by
   generalize H+1=n
   induction n with
   |zero=>rfl
   |succ n ih=>
    rw[repl,ih]
    unfold kH
    rw[List.range_succ_eq_map,List.map_cons,List.map_map]
    rfl
  have r1:(H+1)*8≤roomy:=by unfold roomy;omega
  have r2:H+1≤roomy:=by unfold roomy;omega
  have hsB: ∀e,iM (s++ [e]) B=⟨1,.cells (DP B H N i) 0 true⟩:=fun e=>by rw[uw (by omega)];exact K
  have hsv: ∀e,Ev.stV l (s++ [e]) (.ptr .S B 1 i) (.isl .S (B+1+i) 1 0 (H+1) 1) 1=some (l,iR (s++ [e]) B ⟨1,.cells (DP B H N (i+1)) 0 true⟩):=fun e=>by
   rw[yR (by rfl) (hsB e),vt,if_pos ⟨rfl,rfl,rfl,Nat.zero_le _,by omega⟩]
   show some (l,iR _ B ⟨1,.cells (splice (DP B H N i) i [.isl .S (B+1+i) 1 0 (H+1) 1]) 0 true⟩)=_
   rw[pY]
  simp(maxDischargeDepth:=6) only[qA,jA,iN,seval,gd,Bb,F,h3,jG,mK,E,Hu,hi,Vd,hw,FH,AR,r1,r2,A9,J,RB,K,ls,hsv]
  have gs: ∀j,j<B+1+i→j≠B→iM (iR (s++ [⟨1,.cells (kH (H+1) fun _=>0) 0 false⟩]) B ⟨1,.cells (DP B H N (i+1)) 0 true⟩) j=iM s j:=fun j Z hjB=>by rw[lD,if_neg hjB,uw (by omega)]
  have gB:iM (iR (s++ [⟨1,.cells (kH (H+1) fun _=>0) 0 false⟩]) B ⟨1,.cells (DP B H N (i+1)) 0 true⟩) B=⟨1,.cells (DP B H N (i+1)) 0 true⟩:=by rw[lD,if_pos rfl]
  have gP:iM (iR (s++ [⟨1,.cells (kH (H+1) fun _=>0) 0 false⟩]) B ⟨1,.cells (DP B H N (i+1)) 0 true⟩) (B+1+i)=⟨1,.cells (kH (H+1) fun _=>0) 0 false⟩:=by rw[lD,if_neg (by omega),←J];exact ux (k:=0)
  have l2:(iR (s++ [⟨1,.cells (kH (H+1) fun _=>0) 0 false⟩]) B ⟨1,.cells (DP B H N (i+1)) 0 true⟩).length=B+1+i+1:=by rw[jQ _ _ _ (by rw[List.length_append];omega),List.length_append,J];rfl
  generalize iR (s++ [⟨1,.cells (kH (H+1) fun _=>0) 0 false⟩]) B ⟨1,.cells (DP B H N (i+1)) 0 true⟩=s2 at*
  generalize hD:DC pE 134 (.loop uH) _=D
  obtain⟨f3,l3,s3,rfl,⟨rfl,hl3,hP3,PO,t16⟩,Na⟩:=G6 KE hD (rc1 N H i hi hN hH B (B+1+i) rfl lW nT (qO (nx i)) V (iQ i) q1 q2 z1 z2 (by unfold qO;split <;> rfl) (C i) r (fun u=>If i u hi) (DP B H N (i+1)) (afH B H N i hi) (JV _ _ _ _) W (T0+Sm i fun i=>Sm (H+1) (wA (iQ i) (C i))) _ (fun s' OP=>X s' fun k U=>(OP k U).trans ((gs k (by omega) (by omega)).trans (O k U))) _ _ (by simp only[qA,seval,F,h3]) (by simp only[qA,seval,F,Y]) (by simp only[qA,seval,F,nD]) (by simp only[qA,seval,F,nj]) (by simp only[qA,seval,DM]) (by simp only[qA,seval,F,pH]) (by simp only[qA,seval,F,mK]) (by simp only[qA,seval,E]) (by simp only[qA,seval]) gB gP (by omega))
  have f19:an f3 19= .i .i64 (i:Int):=by rw[Na 19 (by decide)];simp only[qA,seval,E]
  simp(maxDischargeDepth:=6) only[qA,seval,gd,f19,hw,t16]
  refine⟨by omega,(PO B (by omega)).trans gB,fun j Z=> ?_,fun k U=>(PO k (by omega)).trans ((gs k (by omega) (by omega)).trans (O k U)), ?_⟩
  ·by_cases e:j=i
   ·subst e;exact hP3
   ·rw[PO _ (by omega),gs _ (by omega) (by omega),hr j (by omega)]
  ·rw[Nat.add_assoc];rfl
 ·rintro f l s F ⟨E,rfl,J,K,hr,O,DM⟩
  simp only[qA,seval,gd,Bb,F,jG,E,Int.lt_irrefl]
  have e:DP B H N N=(List.range N).map fun i=> .isl .S (B+1+i) 1 0 (H+1) 1:=by
   unfold DP
   refine List.map_congr_left fun g hg=> ?_
   rw[if_pos (List.mem_range.1 hg)]
  exact⟨J,⟨by rw[K,e],hr⟩,O,DM⟩
omit hN hH lN mI in
theorem aaK(B:Nat):DP B H N 0=List.replicate N .nilsl:=by
 unfold DP
 refine List.eq_replicate_iff.2 ⟨by simp,fun b r=> ?_⟩
 obtain⟨j,_,rfl⟩:=List.mem_map.1 r
 simp
omit hN hH lN mI in
theorem Ng(n:Nat):repl [T.nilsl] n=List.replicate n .nilsl:=by
 induction n with
 |zero=>rfl
 |succ n ih=>rw[repl,ih,List.replicate_succ];rfl
theorem rc3(J:Nat→Nat→Bool)(hJ:nx=ln N J)(fr:Fr)(lh:iL iy)(s0:List iy)(h3:an fr 3= .i .i64 (H:Int))(W:an fr 11=lW)(nD:an fr 13=nT)(jG:an fr 14= .i .i64 (N:Int))(nj:an fr 15= .isl .S 0 1 0 N 1)(sy:an fr 16= .i .i64 0)(pH:an fr 17= .i .i64 1)(O:s0= [⟨1,.cells (List.replicate N .nilsl) 0 true⟩]):
  Lp pE 134 Bc fr lh s0 (.ext 0) fun f l s=>an f 16= .i .i64 (ni (yh N H (cB N J iQ) 6)):=by
 subst hJ
 refine kO KG (fun k f l s=>an f 17= .i .i64 ((k+1:Nat):Int)∧an f 16= .i .i64 (ni (yh N H (cB N J iQ) k))∧ ∃E,an f 15= .isl .S E 1 0 N 1∧((k=0∧iM s E=⟨1,.cells (List.replicate N .nilsl) 0 true⟩∧E+1≤s.length)∨(k≠0∧Tb s E N H (fun i h=>ni (cB N J iQ k i h))∧E+N+1≤s.length))) 6 ⟨pH,sy,0,nj,.inl ⟨rfl,by rw[O];rfl,by rw[O];exact Nat.le_refl _⟩⟩ ?_ ?_
 ·rintro k f l s hk F ⟨JH,DM,E,X,I⟩
  have Y:((k+1:Nat):Int)≤6:=by omega
  have hw:wr .i64 (((k+1:Nat):Int)+1)=((k+1+1:Nat):Int):=by rw[jE (by omega)];omega
  obtain⟨V,Z,If⟩: ∃V,(∀K,(∀j,j<s.length→iM K j=iM s j)→ ∃us,∀lh,fzV lh K false (.isl .S E 1 0 N 1)=some (V,us))∧ ∀i h,i<N→h≤H→be pE 24 [V,qO (ln N J i),.i .i64 ((k+1:Nat):Int),.i .i64 (h:Int)] []=some (.i .i64 (ni (cC N J iQ k i h)),[]):=by
   rcases I with⟨rfl,I,hb⟩|⟨h0,I,hb⟩
   ·exact⟨_,fun K OP=>amH ((OP E (by omega)).trans I),fun i h _ _=>aaI _ _ h⟩
   ·refine⟨_,fun K OP=>(Tb.mk ((OP E (by omega)).trans I.n) fun i hi=>(OP _ (by omega)).trans (I.r i hi)).fz,fun i h hi hh=> ?_⟩
    have hg2: ∀g∈ln N J i,g<N:=fun g hg=>List.mem_range.1 (List.mem_filter.1 hg).1
    have wg:(ln N J i).length≤1000:=Nat.le_trans (Cd (J i) N) hN
    have Ca:iJ (qO (ln N J i)) (ln N J i).length (ints ((ln N J i).map Int.ofNat)):=by
     unfold qO
     split
     ·rename_i h;rw[h];exact .inl ⟨rfl,rfl,rfl⟩
     ·exact .inr ⟨_,rfl⟩
    rw[afE N H (cB N J iQ k) (ln N J i) hg2 wg _ Ca h hh _ (by omega)]
    obtain⟨m,rfl⟩: ∃m,k=m+1:=⟨k-1,by omega⟩
    rw[show JS (ln N J i) (fun j=>cB N J iQ (m+1) j h)=Sm N fun j=>rk (J i j)*cB N J iQ (m+1) j h from afC N (J i) _]
    rfl
  have r1:N*24≤roomy:=by unfold roomy;omega
  have r2:N≤roomy:=by unfold roomy;omega
  have A9:=Ng N
  simp(maxDischargeDepth:=6) only[qA,jA,iN,seval,gd,Bc,F,jG,JH,Y,AR,r1,r2,A9,qN]
  generalize hD:DC pE 134 (.loop Bb) _=D
  obtain⟨f3,l3,s3,rfl,⟨rfl,hl3,hT,PO,U⟩,Na⟩:=G6 KF hD (rc2 N H hN hH lW nT iQ (ln N J) lN mI s.length V (cC N J iQ k) ((k+1:Nat):Int) If E (yh N H (cB N J iQ) k) _ (fun K OP=>Z K fun j hj=>(OP j hj).trans (uw hj)) _ _ (by simp only[qA,seval,F,h3]) (by simp only[qA,seval,F,W]) (by simp only[qA,seval,F,nD]) (by simp only[qA,seval,F,jG]) (by simp only[qA,seval,X]) (by simp only[qA,seval,DM]) (by simp only[qA,seval,JH]) (by simp only[qA,seval]) (by simp only[qA,seval]) (by rw[aaK];exact ux (k:=0)) (by simp))
  have f17:an f3 17= .i .i64 ((k+1:Nat):Int):=by rw[Na 17 (by decide)];simp only[qA,seval,JH]
  have f18:an f3 18= .isl .S s.length 1 0 N 1:=by rw[Na 18 (by decide)];simp only[qA,seval]
  have et:(yh N H (cB N J iQ) k+Sm N fun i=>Sm (H+1) (wA (iQ i) (cC N J iQ k i)))=yh N H (cB N J iQ) (k+1):=by
   have e1:(Sm N fun i=>Sm (H+1) (wA (iQ i) (cC N J iQ k i)))=Sm N fun i=>Sm (H+1) fun h=>cB N J iQ (k+1) i h:=jJ fun i _=>jJ fun h _=>(Ry N J iQ k i h).symm
   rw[e1,AW (fun i h=>cB N J iQ (k+1) i h) (H+1) N]
   rfl
  rw[et]at U
  simp(maxDischargeDepth:=6) only[qA,seval,gd,f17,f18,hw,U]
  refine⟨s.length,rfl,.inr ⟨?_,by omega⟩⟩
  have:(fun i h=>ni (cB N J iQ (k+1) i h))=fun i h=>ni (wA (iQ i) (cC N J iQ k i) h):=funext fun i=>funext fun h=>by rw[Ry];rfl
  rw[this]
  exact hT
 ·rintro f l s F ⟨JH,DM,_⟩
  have Y: ¬((6+1:Nat):Int)≤6:=by omega
  simp only[qA,seval,gd,Bc,F,JH,Y]
  exact DM
end
def G8(c:Ct)(fl:List Fl)(ops:List Int)(H:Nat):Int:=ni (yh fl.length H (cB fl.length (jn c fl) (nk ops)) 6)
def wq(t:Tt)(c:Ct)(ops:List Int)(H:Int):Int:=if mi t c=0 then(if vL t.fl.length none ops=0 then(if H<0∨6<H then 5 else 0)else vL t.fl.length none ops)else mi t c
section
variable(t:Tt)(c:Ct)(zT aT fT a7 a8 a9 a10 iH iG:T)(hT:ue t zT aT fT)(hC:uF c a7 a8 a9 a10 iH iG)(hA:U9 c)(hL: ∀f∈t.fl,f.nu.length≤mh)(hN:t.fl.length≤1000)
include hT hC hA hL hN
theorem JW(ops:List Int)(W:T)(X:iJ W ops.length (ints ops))(I:ops.length≤1000)(H:Int): ∃s,be pE 10 [.agg [zT,aT,fT],.agg (jb c a7 a8 a9 a10 iH iG),W,.i .i64 H] []=some (.tup [.i .i64 (if wq t c ops H=0 then G8 c t.fl ops H.toNat else 0),.i .i64 (wq t c ops H)],s):=by
 have r:=DD t c zT aT fT a7 a8 a9 a10 iH iG hT hC
 have E:=Ju t c zT aT fT a7 a8 a9 a10 iH iG hT hC hA hL
 have J:=aaJ t c zT aT fT a7 a8 a9 a10 iH iG hT hC hN ops W X I
 have e3:=Ce t c zT aT fT a7 a8 a9 a10 iH iG hT hC hN
 have K:=X.froz
 have O:=X.froz1
 obtain⟨fc,f1,f2⟩:=id hT.f
 have Y:=f1.lenI
 unfold jb at*
 unfold wq
 rw[iD aq1 (by simp[tE])]
 by_cases F:mi t c=0
 ·by_cases U:vL t.fl.length none ops=0
  ·by_cases Z:H<0∨6<H
   ·by_cases V:H<0
    ·simp(maxDischargeDepth:=6) only[qA,seval,tE,r,E,J,F,U,Z,V,K,O,Oq,Lz,true_or,Fy]
    ·have h5:6<H:=by omega
     simp(maxDischargeDepth:=6) only[qA,seval,tE,r,E,J,F,U,Z,V,h5,K,O,Oq,Lz,or_true,Fy]
   ·obtain⟨m,rfl⟩: ∃m:Nat,H=(m:Int):=⟨H.toNat,by omega⟩
    have V: ¬(m:Int)<0:=by omega
    have h5: ¬6<(m:Int):=by omega
    have r1:t.fl.length*24≤roomy:=by unfold roomy;omega
    have r2:t.fl.length≤roomy:=by unfold roomy;omega
    have A9:=Ng t.fl.length
    have hnf:froz1 (ku t.fl.length (((List.range t.fl.length).map (ln t.fl.length (jn c t.fl))).map qO))=true:=by unfold ku;split <;> rfl
    have mI: ∀f,f<t.fl.length→ ∃q,∀kk,ng (ku t.fl.length (((List.range t.fl.length).map (ln t.fl.length (jn c t.fl))).map qO)) (.i kk (f:Int)) 1=some (.vp (qO (ln t.fl.length (jn c t.fl) f)::q)):=fun f hf=>by
     have I:(((List.range t.fl.length).map (ln t.fl.length (jn c t.fl))).map qO).length=t.fl.length:=by simp
     unfold ku
     rw[if_neg (by omega)]
     refine⟨(((List.range t.fl.length).map (ln t.fl.length (jn c t.fl))).map qO).drop (f+1),fun kk=> ?_⟩
     rw[kG,if_pos ⟨by omega,by simpa using hf,by rw[I];simp;omega⟩,Int.toNat_natCast,Nat.mul_one,List.drop_eq_getElem_cons (by rw[I];exact hf)]
     simp
    generalize ku t.fl.length (((List.range t.fl.length).map (ln t.fl.length (jn c t.fl))).map qO)=nT at*
    simp(maxDischargeDepth:=6) only[qA,jA,seval,tE,r,E,J,e3,F,U,Z,V,h5,K,O,Oq,Lz,SU,Y,AR,r1,r2,A9,hnf]
    generalize hD:DC pE 134 (.loop Bc) _=D
    obtain⟨f3,l3,s3,rfl,t16,Na⟩:=G6 KG hD (rc3 t.fl.length m hN (by omega) (.sl (sC (nl t.fl.length ops)) t.fl.length false) nT (nk ops) (ln t.fl.length (jn c t.fl)) (JP t.fl.length ops) mI (jn c t.fl) rfl _ _ _ (by simp only[qA,seval]) (by simp only[qA,seval]) (by simp only[qA,seval]) (by simp only[qA,seval]) (by simp only[qA,seval]) (by simp only[qA,seval]) (by simp only[qA,seval]) rfl)
    simp(maxDischargeDepth:=6) only[qA,seval,t16]
    simp only[or_self,if_false,if_true]
    exact⟨_,rfl⟩
  ·simp(maxDischargeDepth:=6) only[qA,seval,tE,r,E,J,F,U,K,O,Oq,Lz,Fy]
 ·simp(maxDischargeDepth:=6) only[qA,seval,tE,r,E,F,Oq,Fy]
end
end Go.Proofs.YtjniffjppoklpaaGreat
