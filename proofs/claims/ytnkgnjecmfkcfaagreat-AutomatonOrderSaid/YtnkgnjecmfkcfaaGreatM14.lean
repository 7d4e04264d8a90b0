/- Walks of functions of the program and of the reference, and their plain laws, part 14. Conditions: the theorems' own. -/
import Derived.Test.YtnkgnjecmfkcfaaGreatGS
import Derived.Test.YtnkgnjecmfkcfaaGreatM10
import Derived.Test.YtnkgnjecmfkcfaaGreatM12
import Derived.Test.YtnkgnjecmfkcfaaGreatM13
import Derived.KernelRfl
set_option maxRecDepth 100000
set_option linter.unusedSimpArgs false
set_option linter.unusedVariables false
set_option maxHeartbeats 16000000
namespace Go.Proofs.YtnkgnjecmfkcfaaGreat
open Go Go.Ev
def Q7(H:Nat)(w:Nat→Int):T:= .sl (eJ (H+1) w) (H+1) false
def Yc(N H:Nat)(w:Nat→Nat→Int):T:= .sl ((List.range N).map fun i=>Q7 H (w i)) N false
def Fv(r:List Nat)(f:Nat→Nat):Nat:=(r.map f).sum
theorem adY(N:Nat)(J:Nat→Bool)(f:Nat→Nat):Fv ((List.range N).filter J) f=Sm N fun j=>sW (J j)*f j:=by
 induction N with
 |zero=>rfl
 |succ n ih=>
  rw[Ft,Sm,←ih]
  cases h:J n
  ·simp[sW]
  ·simp[sW,Fv]
theorem alx(N H:Nat)(w:Nat→Nat→Int)(i:Nat)(hi:i<N): ∃q,∀kk,iaV (Yc N H w) (.i kk (i:Int)) 1=some (.vp (Q7 H (w i)::q)):=by
 refine⟨((List.range N).map fun i=>Q7 H (w i)).drop (i+1),fun kk=> ?_⟩
 unfold Yc
 rw[cT,if_pos ⟨by omega,by simpa using hi,by simp;omega⟩,Int.toNat_natCast,Nat.mul_one,List.drop_eq_getElem_cons (by simpa using hi)]
 simp
theorem adZ(H:Nat)(w:Nat→Int)(h:Nat)(r:h≤H): ∃q,∀kk,iaV (Q7 H w) (.i kk (h:Int)) 1=some (.vp (.i .i64 (w h)::q)):=by
 refine⟨(eJ (H+1) w).drop (h+1),fun kk=> ?_⟩
 unfold Q7
 rw[cT,if_pos ⟨by omega,by simp;omega,by rw[nN];simp;omega⟩,Int.toNat_natCast,Nat.mul_one,List.drop_eq_getElem_cons (by rw[nN];omega)]
 simp[eJ]
theorem axe(N H:Nat)(w:Nat→Nat→Nat)(r:List Nat)(hr: ∀j∈r,j<N)(X:r.length≤1000)(Y:T)(D:IsSl Y r.length (ints (r.map Int.ofNat)))(h:Nat)(Z:h≤H)(fr:Fr)(lh:aE ah)(sh:List ah)(h0:aa fr 0=Yc N H fun i g=>gH (w i g))(h1:aa fr 1=Y)(h3:aa fr 3= .i .i64 (h:Int))(h9:aa fr 9= .i .i64 0)(R:aa fr 10= .i .i64 0):
  Lp pE 34 wc fr lh sh (.ext 0) fun f l s=>aa f 9= .i .i64 (gH (Fv r fun j=>w j h))∧l=lh∧s=sh:=by
 refine cm G3 (fun k f l s=>aa f 9= .i .i64 (gH (Fv (r.take k) fun j=>w j h))∧aa f 10= .i .i64 (k:Int)∧l=lh∧s=sh) r.length ⟨h9,R,rfl,rfl⟩ ?_ ?_
 ·rintro k f _ _ hk U ⟨O,I,rfl,rfl⟩
  have V:(k:Int)<r.length:=zZ
  have hw:=aG (k:=k) zZ
  have K:=fun kk=>D.ia (sz:=1) (k:=k) (kk:=kk) (by rw[dR,List.length_map];omega) hk
  have hd:(ints (r.map Int.ofNat)).drop (k*1)= .i .i64 (r[k]:Int)::(ints (r.map Int.ofNat)).drop (k+1):=by
   rw[Nat.mul_one,List.drop_eq_getElem_cons (by simpa[ints]using hk)]
   simp[ints]
  rw[hd]at K
  have iQ:Fv (r.take (k+1)) (fun j=>w j h)=Fv (r.take k) (fun j=>w j h)+w r[k] h:=by
   unfold Fv;rw[List.take_succ_eq_append_getElem hk,List.map_append,List.sum_append];simp
  obtain⟨q1,e1⟩:=alx N H (fun i g=>gH (w i g)) r[k] (hr _ (List.getElem_mem hk))
  obtain⟨q2,e2⟩:=adZ H (fun g=>gH (w r[k] g)) h Z
  have W:=D.lenI
  rw[iQ]
  generalize r[k]=x at*
  simp(maxDischargeDepth:=6) only[qA,seval,gd,wc,U,h0,h1,h3,O,I,V,hw,K,W,e1,e2,yJ]
 ·rintro f _ _ U ⟨O,I,rfl,rfl⟩
  rw[List.take_length]at O
  have W:=D.lenI
  simp only[qA,seval,gd,wc,U,h1,O,I,W,Int.lt_irrefl]
theorem ad0(N H:Nat)(w:Nat→Nat→Nat)(r:List Nat)(hr: ∀j∈r,j<N)(K:r.length≤1000)(O:T)(R:IsSl O r.length (ints (r.map Int.ofNat)))(h:Nat)(U:h≤H)(I:Int)(hs:I≠1):ae pE 66 [Yc N H fun i g=>gH (w i g),O,.i .i64 I,.i .i64 (h:Int)] []=some (.i .i64 (gH (Fv r fun j=>w j h)),[]):=by
 rw[av PA (by simp[c66])]
 simp(maxDischargeDepth:=6) only[qA,seval,c66,hs]
 generalize V:DC pE 34 (.loop wc) _=D
 obtain⟨X,Y,s2,rfl,⟨W,rfl,rfl⟩,Z⟩:=sa G3 V (axe N H w r hr K O R h U _ _ _ yW yW yW yW yW)
 simp(maxDischargeDepth:=6) only[qA,seval,W]
theorem Yd(D I:T)(h:Nat):ae pE 66 [D,I,.i .i64 1,.i .i64 (h:Int)] []=some (.i .i64 (gH (LN h)),[]):=by
 rw[av PA (by simp[c66])]
 cases h with
 |zero=>
  have r:((0:Nat):Int)=0:=rfl
  simp(maxDischargeDepth:=6) only[qA,seval,c66,LN,adW,r]
 |succ h=>
  have h0: ¬((h+1:Nat):Int)=0:=zZ
  simp(maxDischargeDepth:=6) only[qA,seval,c66,LN,Jl,h0]
section
variable(t:Tt)(c:Ct)(zT aT fT a7 a8 a9 aw aA az:T)(hT:ky t zT aT fT)(hC:kP c a7 a8 a9 aw aA az)(hN:t.fl.length≤1000)
include hT hC hN
theorem rj1(i:Nat)(hi:i<t.fl.length)(fr:Fr)(lh:aE ah)(sh:List ah)(h2:aa fr 2= .ptr .L 2 1 0)(h3:aa fr 3= .ptr .L 3 1 0)(h6:aa fr 6= .i .i64 (i:Int))(h7:aa fr 7= .nilsl)(h8:aa fr 8= .i .i64 0)(o2:ab lh 2=⟨1,.cells [zT,aT,fT] 0 true⟩)(o3:ab lh 3=⟨1,.cells (aV c a7 a8 a9 aw aA az) 0 true⟩):
  Lp pE 37 sk fr lh sh (.ext 2) fun f l s=>s=sh∧bh l (aa f 7) 31 1 (jN t.fl.length (jn c t.fl) i).length (ints ((jN t.fl.length (jn c t.fl) i).map Int.ofNat))∧(∀j,j≠31→ab l j=ab lh j):=by
 have W:=hT.f
 obtain⟨fc,f1,f2⟩:=W
 have X:=f1.lenI
 have Y:=fun k (hk:k<t.fl.length)=>IY t c zT aT fT a7 a8 a9 aw aA az hT hC (i:=(i:Int)) (j:=(k:Int)) (by unfold lK;simpa using hi) (by unfold lK;simpa using hk)
 have hz:=Dt t c zT aT fT a7 a8 a9 aw aA az hT hC
 unfold aV at*
 refine cm GV (fun k f l s=>aa f 8= .i .i64 (k:Int)∧s=sh∧bh l (aa f 7) 31 1 ((List.range k).filter fun j=>jn c t.fl i j).length (ints (((List.range k).filter fun j=>jn c t.fl i j).map Int.ofNat))∧(∀j,j≠31→ab l j=ab lh j)) t.fl.length ⟨h8,rfl,by rw[h7];exact bh.nil,fun _ _=>rfl⟩ ?_ ?_
 ·rintro k f l _ hk R ⟨U,rfl,I,D⟩
  have K:(k:Int)<t.fl.length:=zZ
  have hw:=aG (k:=k) zZ
  have e1:=Y k hk
  rw[show pn c t.fl (i:Int) (k:Int)=jn c t.fl i k by rw[nL c t.fl hi hk,NZ hi hk]]at e1
  have V:=(D 2 zz).trans o2
  have q3:=(D 3 zz).trans o3
  have hlen:((List.range k).filter fun j=>jn c t.fl i j).length≤k:=Fu (jn c t.fl i) k
  have Z:=fun(aU:aE ah) (aX:List ah) (e:ab aU 31=ab l 31)=>dV (sh:=aX) (I.congr e) [.i .i64 (k:Int)] rfl (bytes:=8) (by unfold roomy;omega) true
  have nY:=I.notS
  rw[Ft]
  generalize (List.range k).filter (fun j=>jn c t.fl i j)=r at*
  generalize O:aa f 7=v7 at I Z nY
  cases hb:jn c t.fl i k
  ·simp(maxDischargeDepth:=6) only[qA,seval,gd,sk,R,h2,h3,h6,U,V,q3,X,K,hw,e1,hb,aiY,O,hz]
   exact⟨I,D⟩
  ·simp(maxDischargeDepth:=6) only[qA,seval,gd,sk,R,h2,h3,h6,U,V,q3,X,K,hw,e1,hb,aiY,O,hz,Z,nY,repl]
   obtain⟨_,k1,k2⟩:=Z l _ rfl
   rw[show ints ((r++ [k]).map Int.ofNat)=ints (r.map Int.ofNat)++ [.i .i64 (k:Int)]by simp[ints],show(r++ [k]).length=r.length+1 by simp]
   exact⟨k1,fun j hj=>(k2 j hj).trans (D j hj)⟩
 ·rintro f l _ R ⟨U,rfl,I,D⟩
  have V:=(D 2 zz).trans o2
  simp only[qA,seval,gd,sk,R,h2,V,U,X,Int.lt_irrefl]
  exact⟨I,D⟩
theorem rj2(fr:Fr)(lh:aE ah)(sh:List ah)(h2:aa fr 2= .ptr .L 2 1 0)(h3:aa fr 3= .ptr .L 3 1 0)(h5:aa fr 5= .nilsl)(h6:aa fr 6= .i .i64 0)(o2:ab lh 2=⟨1,.cells [zT,aT,fT] 0 true⟩)(o3:ab lh 3=⟨1,.cells (aV c a7 a8 a9 aw aA az) 0 true⟩):
  Lp pE 37 vU fr lh sh (.ext 0) fun f l s=>s=sh∧bh l (aa f 5) 35 1 t.fl.length (((List.range t.fl.length).map (jN t.fl.length (jn c t.fl))).map pO):=by
 have hf0:=hT.f
 obtain⟨fc,f1,f2⟩:=hf0
 have eQ:=f1.lenI
 refine cm GW (fun k f l s=>aa f 6= .i .i64 (k:Int)∧s=sh∧bh l (aa f 5) 35 1 k (((List.range k).map (jN t.fl.length (jn c t.fl))).map pO)∧(∀j,j≠31→j≠35→ab l j=ab lh j)) t.fl.length ⟨h6,rfl,by rw[h5];exact bh.nil,fun _ _ _=>rfl⟩ ?_ ?_
 ·rintro k f l s hk O ⟨R,rfl,hO,U⟩
  have hk':(k:Int)<t.fl.length:=zZ
  have hw:=aG (k:=k) zZ
  have X:=(U 2 zz zz).trans o2
  have q3:=(U 3 zz zz).trans o3
  simp(maxDischargeDepth:=6) only[qA,seval,vU,O,h2,R,X,eQ,hk']
  generalize hD:DC pE 37 (.loop sk) _=D
  obtain⟨r,l2,s2,rfl,⟨rfl,V,LP⟩,fY⟩:=sa GV hD (rj1 t c zT aT fT a7 a8 a9 aw aA az hT hC hN k hk _ _ _ (by simp only[qA,seval,O,h2]) (by simp only[qA,seval,O,h3]) (by simp only[qA,seval,R]) yW yW X q3)
  have e6:aa r 6= .i .i64 (k:Int):=by rw[fY 6 zz];simp only[qA,seval,R]
  have e5:aa r 5=aa f 5:=by rw[fY 5 zz];simp only[qA,seval]
  have I:=hO.congr (LP 35 zz)
  rw[←e5]at I
  obtain⟨v7,e7⟩: ∃v,aa r 7=v:=⟨_,rfl⟩
  obtain⟨v5,K⟩: ∃v,aa r 5=v:=⟨_,rfl⟩
  rw[e7]at V
  rw[K]at I
  have ht:pO (jN t.fl.length (jn c t.fl) k)=bG (jN t.fl.length (jn c t.fl) k).length (ints ((jN t.fl.length (jn c t.fl) k).map Int.ofNat)):=by
   unfold bG pO
   simp only[List.length_eq_zero_iff]
  have nY:=I.notS
  have Y:=fun(v:T) (aU:aE ah) (aX:List ah) (e:ab aU 35=ab l2 35)=>dV (sh:=aX) (I.congr e) [v] rfl (bytes:=24) (by unfold roomy;omega) true
  have xS:((List.range (k+1)).map (jN t.fl.length (jn c t.fl))).map pO=((List.range k).map (jN t.fl.length (jn c t.fl))).map pO++ [pO (jN t.fl.length (jn c t.fl) k)]:=by rw[List.range_succ,List.map_append,List.map_append];rfl
  rw[xS,ht]
  have LQ: ∀j,j≠31→j≠35→ab l2 j=ab lh j:=fun j h1 h2=>(LP j h1).trans (U j h1 h2)
  rcases V with⟨h1,rfl,h3⟩|⟨g,wm,rfl,ho,hl,hp⟩
  ·simp(maxDischargeDepth:=6) only[qA,seval,gd,K,e6,e7,nY,Y,hw,repl,h1,bG]
   exact fun j Z W=>((Y .nilsl l2 _ rfl).2.2 j W).trans (LQ j Z W)
  ·have hp': ¬(jN t.fl.length (jn c t.fl) k).length=0:=zZ
   have hl':(jN t.fl.length (jn c t.fl) k).length≤(ints ((jN t.fl.length (jn c t.fl) k).map Int.ofNat)).length:=zZ
   have htk:(ints ((jN t.fl.length (jn c t.fl) k).map Int.ofNat)).take (jN t.fl.length (jn c t.fl) k).length=ints ((jN t.fl.length (jn c t.fl) k).map Int.ofNat):=List.take_of_length_le zZ
   simp(maxDischargeDepth:=6) only[qA,seval,gd,K,e6,e7,nY,Y,hw,repl,ho,hl',htk,hp',bG]
   exact fun j Z W=>((Y _ _ _ yW).2.2 j W).trans ((bq _ _ Z).trans (LQ j Z W))
 ·rintro f l _ O ⟨R,rfl,hO,U⟩
  have X:=(U 2 zz zz).trans o2
  simp only[qA,seval,gd,vU,O,h2,X,R,eQ,Int.lt_irrefl]
  exact hO
theorem DF:ae pE 31 [.agg [zT,aT,fT],.agg (aV c a7 a8 a9 aw aA az)] []=some (bG t.fl.length (((List.range t.fl.length).map (jN t.fl.length (jn c t.fl))).map pO),[]):=by
 have U:=Dt t c zT aT fT a7 a8 a9 aw aA az hT hC
 have hL:=fun fr lh sh h2 h3 h5 h6 r I=>rj2 t c zT aT fT a7 a8 a9 aw aA az hT hC hN fr lh sh h2 h3 h5 h6 r I
 unfold aV at*
 rw[av aiN (by simp[c31])]
 simp(maxDischargeDepth:=6) only[qA,seval,c31]
 generalize K:DC pE 37 (.loop vU) _=D
 obtain⟨O,V,s2,rfl,⟨rfl,R⟩,W⟩:=sa GW K (hL _ _ _ yW yW yW yW yW yW)
 have ZO:=fun sh=>R.fzV (keep:=false) (sh:=sh)
 obtain⟨X,e5⟩: ∃v,aa O 5=v:=⟨_,rfl⟩
 rw[e5]at ZO
 simp(maxDischargeDepth:=6) only[qA,AK,seval,e5,ZO]
theorem aC0(ops:List Int)(oT:T)(ho:IsSl oT ops.length (ints ops))(hl:ops.length≤1000)(fr:Fr)(lh:aE ah)(sh:List ah)(h1:aa fr 1=oT)(h2:aa fr 2= .ptr .L 2 1 0)(h4:aa fr 4= .nilsl)(h6:aa fr 6= .isl .L 11 1 0 t.fl.length 1)(h7:aa fr 7= .i .i64 0)(U:ab lh 2=⟨1,.cells [zT,aT,fT] 0 true⟩)(GB:ab lh 11=⟨1,.cells (wX (inB t.fl.length [])) 0 false⟩):
  Lp pE 54 mE fr lh sh (if BJ t.fl.length none ops=0 then .ext 0 else .ret) fun f l s=>s=sh∧(BJ t.fl.length none ops=0→ab l 11=⟨1,.cells (wX (inB t.fl.length ops)) 0 false⟩)∧(BJ t.fl.length none ops≠0→aa f 4= .nilsl∧aa f 5= .i .i64 (BJ t.fl.length none ops)):=by
 have _:=hC
 have _:=hN
 have hf0:=hT.f
 obtain⟨fc,f1,f2⟩:=hf0
 have K:=f1.lenI
 have Z:=ho.lenI
 generalize hR:BJ t.fl.length none ops=R
 refine cm GR (fun k f l s=>aa f 7= .i .i64 (k:Int)∧aa f 4= .nilsl∧s=sh∧ab l 2=⟨1,.cells [zT,aT,fT] 0 true⟩∧ab l 11=⟨1,.cells (wX (inB t.fl.length (ops.take k))) 0 false⟩∧R=BJ t.fl.length (Q5 ops k) (ops.drop k)) ops.length ⟨h7,h4,rfl,U,GB,hR.symm⟩ ?_ ?_
 ·rintro k f l _ hk V ⟨W,g4,rfl,U,GB,r⟩
  have I:(k:Int)<ops.length:=zZ
  have hw:wr .i64 ((k:Int)+1)=((k+1:Nat):Int):=by rw[bI zZ];omega
  have D:=fun kk=>ho.ia (sz:=1) (k:=k) (kk:=kk) (by rw[dR];omega) hk
  simp only[Nat.mul_one]at D
  rw[ll ops k hk]at D
  rw[List.drop_eq_getElem_cons hk,Jm]at r
  rw[Q6 ops k hk]
  have xS:=XK t.fl.length (ops.take k) ops[k]
  rw[←List.take_succ_eq_append_getElem hk]at xS
  have ki:=uZ t.fl.length (ops.take k)
  by_cases hx:0≤ops[k]∧ops[k]<(t.fl.length:Int)
  ·obtain⟨x0,xN⟩:=hx
   have X: ¬ops[k]<0:=zZ
   have Y: ¬(t.fl.length:Int)≤ops[k]:=zZ
   have xS:=xS x0 xN
   rw[if_pos ⟨x0,xN⟩]at r
   have xn:ops[k].toNat<t.fl.length:=zZ
   have xn2:ops[k].toNat+1≤t.fl.length:=zZ
   by_cases h0':k=0
   ·subst h0'
    have hp0:Q5 ops 0=none:=rfl
    rw[hp0]at r
    have wZ: ∀kk,iaV oT (.i kk 0) 1=some (.vp (.i .i64 ops[0]::(ints ops).drop (0+1))):=fun kk=>D kk
    have g70:aa f 7= .i .i64 0:=W
    have BI:(0:Int)<ops.length:=I
    generalize wX (inB t.fl.length (ops.take 0))=B at*
    generalize hB:wX (inB t.fl.length (ops.take (0+1)))=B' at*
    simp(maxDischargeDepth:=6) only[qA,seval,gd,mE,V,h1,h2,h6,g70,g4,Z,K,BI,wZ,U,GB,x0,X,Y,xn,xn2,ki,xS]
    exact r
   ·rw[Yb ops k hk h0']at r
    have Jn:=fun kk=>ho.ia (sz:=1) (k:=k-1) (kk:=kk) (by rw[dR];omega) zZ
    simp only[Nat.mul_one]at Jn
    rw[ll ops (k-1) zZ]at Jn
    have hw2:=kR (k:=k) zZ zZ
    have XW:(0:Int)<(k:Int):=zZ
    generalize wX (inB t.fl.length (ops.take k))=B at*
    generalize hB:wX (inB t.fl.length (ops.take (k+1)))=B' at*
    dsimp only at r
    by_cases O:ops[k]≤ops[k-1]
    ·rw[if_pos O]at r
     subst r
     simp(maxDischargeDepth:=6) only[qA,seval,gd,mE,V,h1,h2,W,Z,K,I,hw2,XW,D,Jn,U,GB,X,Y,O]
     exact⟨False.elim,fun _=>trivial⟩
    ·rw[if_neg O]at r
     simp(maxDischargeDepth:=6) only[qA,seval,gd,mE,V,h1,h2,h6,W,g4,Z,K,I,hw,hw2,XW,D,Jn,U,GB,x0,X,Y,xn,xn2,ki,xS,O]
     exact r
  ·rw[if_neg hx]at r
   subst r
   by_cases x0:ops[k]<0
   ·simp(maxDischargeDepth:=6) only[qA,seval,gd,mE,V,h1,W,Z,I,D,GB,x0]
    exact⟨False.elim,fun _=>trivial⟩
   ·have xN:(t.fl.length:Int)≤ops[k]:=zZ
    simp(maxDischargeDepth:=6) only[qA,seval,gd,mE,V,h1,h2,W,Z,K,I,D,U,GB,x0,xN]
    exact⟨False.elim,fun _=>trivial⟩
 ·rintro f l _ V ⟨W,g4,rfl,U,GB,r⟩
  rw[List.drop_length,adX]at r
  rw[List.take_length]at GB
  subst r
  simp only[qA,seval,gd,mE,V,h1,Z,W,Int.lt_irrefl,GB]
  exact⟨fun _=>trivial,False.elim⟩
theorem Ye(ops:List Int)(r:T)(V:IsSl r ops.length (ints ops))(W:ops.length≤1000):ae pE 29 [.agg [zT,aT,fT],r] []=some (if BJ t.fl.length none ops=0 then .tup [.sl (wX (inB t.fl.length ops)) t.fl.length false,.i .i64 0]else .tup [.nilsl,.i .i64 (BJ t.fl.length none ops)],[]):=by
 have hz:=Dt t c zT aT fT a7 a8 a9 aw aA az hT hC
 have hL:=fun fr lh sh=>aC0 t c zT aT fT a7 a8 a9 aw aA az hT hC hN ops r V W fr lh sh
 have I:=hT.f
 obtain⟨fc,X,f2⟩:=I
 have K:=X.lenI
 have r1:t.fl.length*1≤roomy:=by unfold roomy;omega
 have O:t.fl.length≤roomy:=by unfold roomy;omega
 have LR:repl [T.b false] t.fl.length=wX (inB t.fl.length []):=by
  rw[adE]
  generalize t.fl.length=N
  induction N with
  |zero=>rfl
  |succ n ih=>rw[repl,ih,List.replicate_succ];rfl
 have ki:=uZ t.fl.length ops
 have R:(wX (inB t.fl.length ops)).take t.fl.length=wX (inB t.fl.length ops):=List.take_of_length_le zZ
 rw[av asy (by simp[c29])]
 simp(maxDischargeDepth:=6) only[qA,seval,c29,K,O,LR]
 generalize Y:DC pE 54 (.loop mE) _=D
 obtain⟨U,l2,s2,rfl,⟨rfl,hA,Z⟩,fY⟩:=sa GR Y (hL _ _ _ yW yW yW yW yW yW yW)
 have e6:aa U 6= .isl .L 11 1 0 t.fl.length 1:=by rw[fY 6 zz];simp only[qA,seval]
 by_cases h0:BJ t.fl.length none ops=0
 ·have hA:=hA h0
  simp(maxDischargeDepth:=6) only[qA,AK,seval,h0,e6,hA,ki,R]
 ·obtain⟨b1,b2⟩:=Z h0
  simp(maxDischargeDepth:=6) only[qA,AK,seval,h0,b1,b2]
end
end Go.Proofs.YtnkgnjecmfkcfaaGreat
namespace Go.Ev
open Go
def mO(bo:List FP)(i:Nat):Bool:=match aH ⟨true,[],[]⟩ bo i with
 |⟨false,_,[]⟩=>true
 |_=>false
theorem Fw{bo:List FP}{i:Nat}{r:List (Sp×Nat)}(h:mO bo i=true):apart (aH ⟨true,[],[]⟩ bo i) ⟨false,r,[]⟩=true:=by
 unfold mO at h
 split at h
 ·rename_i q D
  rw[D]
  have:eu q []=true:=by unfold eu;rw[List.all_eq_true];intro x _;rfl
  unfold apart
  simp only[this]
  rfl
 ·cases h
theorem Fx{E:Env}{call:jB}{n:Nat}{fr:Fr}{lh:aE ah}{sh:List ah}{ds:List (List Nat×aF)}{bo:List FP}{u:List Nat}{d:Option Nat}{f:Nat}{af:aj}{r:List aP}(O:E.fn f=some af)(R:af.eff=false)(U:af.own=none){q:List T×List Up}(D:yn lh sh false (r.map (rd fr))=some q){v:T}{s:List ah}(hc:call f q.1 []=some (v,s))(V:scalar v=true)(W:RK ds=true)(K:u.all (mO bo)=true):
  aK E call n ((u,⟨d,.callf f r,none⟩)::ds) bo ⟨fr,lh,sh⟩=ke E call n ds (bo++ [fF]) (ai E call n [⟨d,.callf f r,none⟩] ⟨fr,lh,sh⟩):=by
 have I:bg E call n ⟨d,.callf f r,none⟩ ⟨fr,lh,sh⟩≠none→bL E call ⟨d,.callf f r,none⟩ ⟨fr,lh,sh⟩=some ⟨false,(bf (fz false aJ) (r.map (rd fr))).log (St.mk fr lh sh).get sh.length,[]⟩:=by
  intro X
  unfold bL ev
  have Y:bw (St.mk fr lh sh).rho (.callf f r)=some (some (f,r.map (rd fr))):=by rw[dh];rfl
  unfold yn at D
  rw[←lE (fr:=fr)]at D
  simp only[Y,O,R,D]
  have iA:inB (St.mk fr lh sh) q.2=true:=uI (fun t p h=>Le _ _ t p h) _ _ D
  simp only[iA,Bool.not_true,Bool.false_eq_true,if_false,U,hc,V,if_true]
 rw[mJ I,if_pos]
 ·unfold ke
  cases ai E call n [⟨d,.callf f r,none⟩] ⟨fr,lh,sh⟩with
  |none=>rfl
  |some s=>exact AD ds _ _ s W
 ·unfold meets
  rw[List.all_eq_true]at K ⊢
  exact fun i hi=>Fw (K i hi)
end Go.Ev
namespace Go.Proofs.YtnkgnjecmfkcfaaGreat
open Go Go.Ev
def mS(b:Bool)(p:Nat→Nat)(h:Nat):Nat:=sW b*p h+sf p h
theorem Yf(ch:Nat→Bool)(g:Nat)(p:Nat→Nat)(h:Nat):stp ch g p h=mS (ch g) p h:=rfl
theorem LS(a:Nat):wr .i64 (0+gH a)=gH a:=by rw[Int.zero_add,Ya]
theorem rc1(N H i:Nat)(hi:i<N)(hN:N≤1000)(hH:H≤6)(B P:Nat)(hP:P=B+1+i)(NR nT K wT:T)(b:Bool)(q1 q2:List T)(iA: ∀kk,iaV NR (.i kk (i:Int)) 1=some (.vp (.b b::q1)))(iQ: ∀kk,iaV nT (.i kk (i:Int)) 1=some (.vp (K::q2)))(D:froz K=true)(C:Nat→Nat)(r:Int)(DG: ∀h,h≤H→ae pE 66 [wT,K,.i .i64 r,.i .i64 (h:Int)] []=some (.i .i64 (gH (C h)),[]))
  (cb:List T) (X:cb[i]? =some (.isl .S P 1 0 (H+1) 1)) (hcl:cb.length=N) (kw:Nat) (T0:Nat) (O:List ah) (hwz: ∀s,(∀k,k<B→aI s k=aI O k)→ ∃us,∀lh,fzV lh s false (.isl .S kw 1 0 N 1)=some (wT,us))
  (fr:Fr) (lh:aE ah) (h3:aa fr 3= .i .i64 (H:Int)) (Y:aa fr 11=NR) (rk:aa fr 13=nT) (nq:aa fr 15= .isl .S kw 1 0 N 1) (yi:aa fr 16= .i .i64 (gH T0)) (mA:aa fr 17= .i .i64 r) (il:aa fr 18= .isl .S B 1 0 N 1) (Fy:aa fr 19= .i .i64 (i:Int)) (h20:aa fr 20= .i .i64 0) (hB:aI O B=⟨1,.cells cb 0 true⟩) (hR:aI O P=⟨1,.cells (eJ (H+1) fun _=>0) 0 false⟩) (hlen:P<O.length):
  Lp pE 134 nZ fr lh O (.ext 4) fun f l s=>l=lh∧s.length=O.length∧aI s P=⟨1,.cells (eJ (H+1) fun h=>gH (mS b C h)) 0 false⟩∧(∀k,k≠P→aI s k=aI O k)∧aa f 16= .i .i64 (gH (T0+Sm (H+1) (mS b C))):=by
 refine cm GO (fun k f l s=>aa f 20= .i .i64 (k:Int)∧l=lh∧s.length=O.length∧aI s P=⟨1,.cells (eJ (H+1) fun h=>if h<k then gH (mS b C h)else 0) 0 false⟩∧(∀k,k≠P→aI s k=aI O k)∧aa f 16= .i .i64 (gH (T0+Sm k (mS b C)))) (H+1) ⟨h20,rfl,rfl,by rw[hR];rfl,fun _ _=>rfl,yi⟩ ?_ ?_
 ·rintro k f l s hk pr ⟨R,rfl,hl,hr,Z,yH⟩
  have U:(k:Int)≤(H:Int):=zZ
  have hw:=aG (k:=k) zZ
  have hPB: ¬B=P:=zZ
  have I:aI s B=⟨1,.cells cb 0 true⟩:=(Z B hPB).trans hB
  obtain⟨u1,z1⟩:=hwz s fun j hj=>Z j zZ
  have e1:=DG k zZ
  have GC:i+1≤N:=hi
  have hk1:k+1≤H+1:=hk
  generalize ZT:(fun h=>if h<k then gH (mS b C h)else 0)=r0 at hr
  have V:=u7 (H+1) r0 hk
  have axj:r0 k=0:=by rw[←ZT];simp
  rw[axj]at V
  have hlr:=nN (H+1)
  have rU:=fun v=>I9 (H+1) r0 k v hk
  have hd1: ∀fr ds bo (u:List Nat),aa fr 88= .isl .S kw 1 0 N 1→aa fr 92=K→aa fr 93= .i .i64 r→aa fr 94= .i .i64 (k:Int)→RK ds=true→u.all (mO bo)=true→aK pE (ae pE) 134 ((u,⟨some 95,.callf 66 [.t 88,.t 92,.t 93,.t 94],none⟩)::ds) bo ⟨fr,l,s⟩=ke pE (ae pE) 134 ds (bo++ [fF]) (ai pE (ae pE) 134 [⟨some 95,.callf 66 [.t 88,.t 92,.t 93,.t 94],none⟩] ⟨fr,l,s⟩):=by
   intro fr ds bo u g1 g2 g3 g4 hu hq
   refine Fx PA rfl rfl (q:=([wT,K,.i .i64 r,.i .i64 (k:Int)],u1)) ?_ e1 rfl hu hq
   simp(maxDischargeDepth:=6) only[qA,seval,g1,g2,g3,g4,z1,D]
  have axk: ∀(v:Int),v=gH (mS b C k)→eJ (H+1) (fun g=>if g=k then v else r0 g)=eJ (H+1) fun g=>if g<k+1 then gH (mS b C g)else 0:=by
   intro v hv
   refine Be fun g=> ?_
   rw[←ZT]
   by_cases e:g=k
   ·subst e;simp[hv]
   ·by_cases e2:g<k
    ·simp[e,e2,Nat.lt_succ_of_lt e2]
    ·have: ¬g<k+1:=zZ
     simp[e,e2,this]
  have FA:Sm (k+1) (mS b C)=Sm k (mS b C)+mS b C k:=rfl
  have alB: ∀(v:Int),v=gH (mS b C k)→(bD s P ⟨1,.cells (eJ (H+1) fun g=>if g=k then v else r0 g) 0 false⟩).length=O.length∧ah.mk 1 (.cells (eJ (H+1) fun g=>if g=k then v else r0 g) 0 false)=⟨1,.cells (eJ (H+1) fun h=>if h<k+1 then gH (mS b C h)else 0) 0 false⟩∧(∀(j:Nat),¬j=P→aI (bD s P ⟨1,.cells (eJ (H+1) fun g=>if g=k then v else r0 g) 0 false⟩) j=aI O j)∧T.i .i64 (gH (T0+Sm k (mS b C)+mS b C k))= .i .i64 (gH (T0+(Sm k (mS b C)+mS b C k))):=fun v hv=>⟨by rw[jD _ _ _ zZ];exact hl,by rw[axk v hv],fun j hj=>by rw[gse,if_neg hj];exact Z j hj,by rw[Nat.add_assoc]⟩
  by_cases BI:k=0
  ·subst BI
   have axl:(0:Int)≤(H:Int):=U
   have axm:aa f 20= .i .i64 0:=R
   have e10:ae pE 66 [wT,K,.i .i64 r,.i .i64 0] []=some (.i .i64 (gH (C 0)),[]):=e1
   have uy: ∀v,aI (bD s P ⟨1,.cells v 0 false⟩) P=⟨1,.cells v 0 false⟩:=fun v=>by rw[gse,if_pos rfl]
   have fv: ∀v,aI (bD s P ⟨1,.cells v 0 false⟩) B=⟨1,.cells cb 0 true⟩:=fun v=>by rw[gse,if_neg hPB];exact I
   have W:=fun v=>u7 (H+1) (fun g=>if g=0 then v else r0 g) hk
   cases b
   ·have hv:(0:Int)=gH (mS false C 0):=by simp[mS,sW,sf,Jl]
    have wD:mS false C 0=0:=by simp[mS,sW,sf]
    simp(maxDischargeDepth:=6) only[qA,seval,gd,nZ,pr,h3,Y,il,Fy,axm,yH,axl,iA,hi,X,I,hr,hk,V]
    refine⟨hl, ?_,Z, ?_⟩
    ·rw[←axk _ hv]
     refine congrArg (fun c=>ah.mk 1 (.cells c 0 false)) (Be fun g=> ?_)
     by_cases e:g=0
     ·rw[if_pos e,e,axj]
     ·rw[if_neg e]
    ·rw[FA,wD,Int.add_zero,Ya];rfl
   ·have Ec:wr .i64 (0+gH (C 0))=gH (mS true C 0):=by rw[LS];simp[mS,sW,sf]
    have aC6: ∀fr ds bo (u:List Nat),aa fr 88= .isl .S kw 1 0 N 1→aa fr 92=K→aa fr 93= .i .i64 r→aa fr 94= .i .i64 0→RK ds=true→u.all (mO bo)=true→aK pE (ae pE) 134 ((u,⟨some 95,.callf 66 [.t 88,.t 92,.t 93,.t 94],none⟩)::ds) bo ⟨fr,l,s⟩=ke pE (ae pE) 134 ds (bo++ [fF]) (ai pE (ae pE) 134 [⟨some 95,.callf 66 [.t 88,.t 92,.t 93,.t 94],none⟩] ⟨fr,l,s⟩):=fun fr ds bo u g1 g2 g3 g4=>hd1 fr ds bo u g1 g2 g3 g4
    simp(maxDischargeDepth:=6) only[qA,bj,eS,aH,seval,gd,nZ,pr,h3,Y,rk,nq,mA,il,Fy,axm,yH,axl,iA,iQ,hi,X,I,hr,hk,hk1,V,hlr,rU,aC6,e10,z1,D,aiV,fv,uy,W,xQ,jM,Ca,mO,Ec,yJ]
    exact alB _ rfl
  ·obtain⟨m,rfl⟩: ∃m,k=m+1:=⟨k-1,by omega⟩
   have XW:(0:Int)<((m+1:Nat):Int):=zZ
   have hwp:wr .i64 (((m+1:Nat):Int)-1)=(m:Int):=by rw[bI zZ];omega
   have e2:=DG m zZ
   have fv: ∀v,aI (bD s P ⟨1,.cells v 0 false⟩) B=⟨1,.cells cb 0 true⟩:=fun v=>by rw[gse,if_neg hPB];exact I
   have uy: ∀v,aI (bD s P ⟨1,.cells v 0 false⟩) P=⟨1,.cells v 0 false⟩:=fun v=>by rw[gse,if_pos rfl]
   cases b
   ·have wD:wr .i64 (0+gH (C m))=gH (mS false C (m+1)):=by rw[LS];simp[mS,sW,sf]
    have hd2: ∀fr ds bo (u:List Nat),aa fr 112= .isl .S kw 1 0 N 1→aa fr 116=K→aa fr 117= .i .i64 r→aa fr 119= .i .i64 (m:Int)→RK ds=true→u.all (mO bo)=true→aK pE (ae pE) 134 ((u,⟨some 120,.callf 66 [.t 112,.t 116,.t 117,.t 119],none⟩)::ds) bo ⟨fr,l,s⟩=ke pE (ae pE) 134 ds (bo++ [fF]) (ai pE (ae pE) 134 [⟨some 120,.callf 66 [.t 112,.t 116,.t 117,.t 119],none⟩] ⟨fr,l,s⟩):=by
     intro fr ds bo u g1 g2 g3 g4 hu hq
     refine Fx PA rfl rfl (q:=([wT,K,.i .i64 r,.i .i64 (m:Int)],u1)) ?_ e2 rfl hu hq
     simp(maxDischargeDepth:=6) only[qA,seval,g1,g2,g3,g4,z1,D]
    have W:=fun v=>u7 (H+1) (fun g=>if g=m+1 then v else r0 g) hk
    simp(maxDischargeDepth:=6) only[qA,bj,eS,aH,seval,gd,nZ,pr,h3,Y,rk,nq,mA,il,Fy,R,yH,U,hw,iA,iQ,hi,X,I,hr,hk,hk1,V,hlr,rU,hd2,XW,hwp,e2,z1,D,aiV,fv,uy,W,xQ,jM,Ca,mO,wD,yJ,FA]
    exact alB _ rfl
   ·have Ec:wr .i64 (0+gH (C (m+1)))=gH (C (m+1)):=LS _
    have wD:gH (C (m+1)+C m)=gH (mS true C (m+1)):=by simp[mS,sW,sf]
    obtain⟨u2,z2⟩:=hwz (bD s P ⟨1,.cells (eJ (H+1) fun g=>if g=m+1 then gH (C (m+1))else r0 g) 0 false⟩) fun j hj=>by rw[gse,if_neg zZ];exact Z j zZ
    have hd2: ∀fr ds bo (u:List Nat),aa fr 112= .isl .S kw 1 0 N 1→aa fr 116=K→aa fr 117= .i .i64 r→aa fr 119= .i .i64 (m:Int)→RK ds=true→u.all (mO bo)=true→aK pE (ae pE) 134 ((u,⟨some 120,.callf 66 [.t 112,.t 116,.t 117,.t 119],none⟩)::ds) bo ⟨fr,l,bD s P ⟨1,.cells (eJ (H+1) fun g=>if g=m+1 then gH (C (m+1))else r0 g) 0 false⟩⟩=ke pE (ae pE) 134 ds (bo++ [fF]) (ai pE (ae pE) 134 [⟨some 120,.callf 66 [.t 112,.t 116,.t 117,.t 119],none⟩] ⟨fr,l,bD s P ⟨1,.cells (eJ (H+1) fun g=>if g=m+1 then gH (C (m+1))else r0 g) 0 false⟩⟩):=by
     intro fr ds bo u g1 g2 g3 g4 hu hq
     refine Fx PA rfl rfl (q:=([wT,K,.i .i64 r,.i .i64 (m:Int)],u2)) ?_ e2 rfl hu hq
     simp(maxDischargeDepth:=6) only[qA,seval,g1,g2,g3,g4,z2,D]
    have W:=fun v=>u7 (H+1) (fun g=>if g=m+1 then v else r0 g) hk
    have Gq:=fun v1 v2=>I9 (H+1) (fun g=>if g=m+1 then v1 else r0 g) (m+1) v2 hk
    have hmg: ∀(v1 v2:Int),(fun g=>if g=m+1 then v2 else if g=m+1 then v1 else r0 g)=fun g=>if g=m+1 then v2 else r0 g:=fun v1 v2=>funext fun g=>by by_cases e:g=m+1 <;> simp[e]
    simp(maxDischargeDepth:=6) only[qA,bj,eS,aH,seval,gd,nZ,pr,h3,Y,rk,nq,mA,il,Fy,R,yH,U,hw,iA,iQ,hi,X,I,hr,hk,hk1,V,hlr,rU,hd1,hd2,XW,hwp,e1,e2,z1,z2,D,aiV,fv,uy,W,Gq,xQ,jM,Ca,mO,Ec,wD,yJ,FA,cQ,hmg]
    exact alB _ rfl
 ·rintro f _ s pr ⟨R,rfl,hl,hr,Z,yH⟩
  have U: ¬((H+1:Nat):Int)≤(H:Int):=zZ
  have e:eJ (H+1) (fun h=>if h<H+1 then gH (mS b C h)else 0)=eJ (H+1) fun h=>gH (mS b C h):=by
   unfold eJ
   refine List.map_congr_left fun g hg=> ?_
   dsimp only
   rw[if_pos (List.mem_range.1 hg)]
  rw[e]at hr
  simp only[qA,seval,gd,nZ,pr,h3,R,U]
  exact⟨hl,hr,Z,yH⟩
theorem Jo{α:Type}{s:List ah}{nx m:Nat}(f g:α→T): ∀(l:List α),(∀a∈l,∃us,∀r:Sp→Nat→ah,(∀k,r .S k=aI s k)→(fz false m (f a)).run r nx=some (g a,us))→ ∃us,∀r:Sp→Nat→ah,(∀k,r .S k=aI s k)→(bf (fz false m) (l.map f)).run r nx=some (l.map g,us)
 | [],_=>⟨[],fun _ _=>rfl⟩
 |a::l,h=>by
  obtain⟨I,e1⟩:=h a List.mem_cons_self
  obtain⟨K,e2⟩:=Jo f g l fun b O=>h b (List.mem_cons_of_mem _ O)
  refine⟨I++K,fun r D=> ?_⟩
  simp only[List.map_cons,bf,bp,e1 r D,e2 r D,Option.bind_some,Q.run]
structure Tb (s:List ah) (kw N H:Nat) (w:Nat→Nat→Int):Prop where
 n:aI s kw=⟨1,.cells ((List.range N).map fun i=> .isl .S (kw+1+i) 1 0 (H+1) 1) 0 true⟩
 r: ∀i,i<N→aI s (kw+1+i)=⟨1,.cells (eJ (H+1) (w i)) 0 false⟩
theorem Tb.fz{s:List ah}{D N H:Nat}{w:Nat→Nat→Int}(h:Tb s D N H w): ∃us,∀lh,fzV lh s false (.isl .S D 1 0 N 1)=some (Yc N H w,us):=by
 obtain⟨us,e⟩:=Jo (s:=s) (nx:=s.length) (m:=7) (fun i=>T.isl .S (D+1+i) 1 0 (H+1) 1) (fun i=>Q7 H (w i)) (List.range N) fun i hi=>by
  have hi:=List.mem_range.1 hi
  refine⟨[(.S,D+1+i,⟨1,.cells (eJ (H+1) (w i)) (eJ (H+1) (w i)).length false⟩)],fun O K=> ?_⟩
  unfold Ev.fz
  simp only[Bool.false_and,Bool.false_eq_true,if_false,Q.run,K,h.r i hi,if_true]
  rw[if_pos (by rw[nN];omega)]
  simp only[Q.run]
  rw[List.drop_zero,Nat.mul_one,List.take_of_length_le (by rw[nN];omega)]
  rfl
 refine⟨us++ [(.S,D,⟨1,.cells ((List.range N).map fun i=> .isl .S (D+1+i) 1 0 (H+1) 1) ((List.range N).map fun i=>T.isl .S (D+1+i) 1 0 (H+1) 1).length true⟩)],fun lh=> ?_⟩
 have I: ∀k,(St.mk .nil lh s).get .S k=aI s k:=fun _=>rfl
 unfold fzV aJ Ev.fz
 simp only[Bool.false_and,Bool.false_eq_true,if_false,Q.run,I,h.n,if_true]
 rw[if_pos zP,List.drop_zero,Nat.mul_one,List.take_of_length_le zP,bp,e _ I]
 rfl
theorem alC{s:List ah}{r N:Nat}(h:aI s r=⟨1,.cells (List.replicate N .nilsl) 0 true⟩): ∃us,∀lh,fzV lh s false (.isl .S r 1 0 N 1)=some (.sl (List.replicate N .nilsl) N false,us):=by
 have e: ∀(n:Nat) (D:Sp→Nat→ah) (nx:Nat),(bf (Ev.fz false 7) (List.replicate n .nilsl)).run D nx=some (List.replicate n .nilsl,[]):=by
  intro n D nx
  induction n with
  |zero=>rfl
  |succ n ih=>
   simp only[List.replicate_succ,bf,bp,ih]
   rfl
 refine⟨[]++ [(.S,r,⟨1,.cells (List.replicate N .nilsl) (List.replicate N T.nilsl).length true⟩)],fun lh=> ?_⟩
 have I: ∀k,(St.mk .nil lh s).get .S k=aI s k:=fun _=>rfl
 unfold fzV aJ Ev.fz
 simp only[Bool.false_and,Bool.false_eq_true,if_false,Q.run,I,h,if_true]
 rw[if_pos zP,List.drop_zero,Nat.mul_one,List.take_of_length_le zP,bp,e]
 rfl
def yK(B H N i:Nat):List T:=(List.range N).map fun j=>if j<i then .isl .S (B+1+j) 1 0 (H+1) 1 else .nilsl
theorem FB(B H N i:Nat):(yK B H N i).length=N:=by simp[yK]
theorem ad1(B H N i:Nat)(hi:i<N):splice (yK B H N i) i [.isl .S (B+1+i) 1 0 (H+1) 1]=yK B H N (i+1):=by
 rw[oY _ _ _ (by rw[FB];exact hi)]
 refine List.ext_getElem (by simp[yK]) fun j h1 h2=> ?_
 rw[List.getElem_set]
 simp only[yK,List.getElem_map,List.getElem_range]
 by_cases e:i=j
 ·subst e;simp
 ·rw[if_neg e]
  by_cases e2:j<i
  ·rw[if_pos e2,if_pos zZ]
  ·rw[if_neg e2,if_neg zZ]
theorem ad2(B H N i:Nat)(hi:i<N):(yK B H N (i+1))[i]? =some (.isl .S (B+1+i) 1 0 (H+1) 1):=by
 unfold yK
 rw[List.getElem?_map,List.getElem?_range hi]
 simp
section
variable(N H:Nat)(hN:N≤1000)(hH:H≤6)(NR nT:T)(ch:Nat→Bool)(nx:Nat→List Nat)(iA: ∀f,f<N→ ∃q,∀kk,iaV NR (.i kk (f:Int)) 1=some (.vp (.b (ch f)::q)))(iQ: ∀f,f<N→ ∃q,∀kk,iaV nT (.i kk (f:Int)) 1=some (.vp (pO (nx f)::q)))
include hN hH iA iQ
theorem rc2(B:Nat)(V:T)(C:Nat→Nat→Nat)(r:Int)(DG: ∀i h,i<N→h≤H→ae pE 66 [V,pO (nx i),.i .i64 r,.i .i64 (h:Int)] []=some (.i .i64 (gH (C i h)),[]))(W:Nat)(T0:Nat)(O:List ah)(X: ∀s,(∀k,k<B→aI s k=aI O k)→ ∃us,∀lh,fzV lh s false (.isl .S W 1 0 N 1)=some (V,us))
  (fr:Fr) (lh:aE ah) (h3:aa fr 3= .i .i64 (H:Int)) (Y:aa fr 11=NR) (rk:aa fr 13=nT) (di:aa fr 14= .i .i64 (N:Int)) (nq:aa fr 15= .isl .S W 1 0 N 1) (yi:aa fr 16= .i .i64 (gH T0)) (mA:aa fr 17= .i .i64 r) (il:aa fr 18= .isl .S B 1 0 N 1) (Fy:aa fr 19= .i .i64 0) (hB:aI O B=⟨1,.cells (yK B H N 0) 0 true⟩) (hlen:O.length=B+1):
  Lp pE 134 vQ fr lh O (.ext 2) fun f l s=>l=lh∧s.length=B+1+N∧Tb s B N H (fun i h=>gH (mS (ch i) (C i) h))∧(∀k,k<B→aI s k=aI O k)∧aa f 16= .i .i64 (gH (T0+Sm N fun i=>Sm (H+1) (mS (ch i) (C i)))):=by
 refine cm GP (fun i f l s=>aa f 19= .i .i64 (i:Int)∧l=lh∧s.length=B+1+i∧aI s B=⟨1,.cells (yK B H N i) 0 true⟩∧(∀j,j<i→aI s (B+1+j)=⟨1,.cells (eJ (H+1) fun h=>gH (mS (ch j) (C j) h)) 0 false⟩)∧(∀k,k<B→aI s k=aI O k)∧aa f 16= .i .i64 (gH (T0+Sm i fun i=>Sm (H+1) (mS (ch i) (C i))))) N ⟨Fy,rfl,by omega,hB,fun j Z=>absurd Z (Nat.not_lt_zero j),fun _ _=>rfl,yi⟩ ?_ ?_
 ·rintro i f l s hi K ⟨I,rfl,R,hb,hr,U,yH⟩
  have BR:(i:Int)<(N:Int):=zZ
  have hw:=aG (k:=i) zZ
  have hw2:wr .i64 ((H:Int)+1)=((H+1:Nat):Int):=by rw[bI zZ];omega
  obtain⟨q1,z1⟩:=iA i hi
  obtain⟨q2,z2⟩:=iQ i hi
  have GC:i+1≤N:=hi
  have hcl:=FB B H N i
  have fv:=ad1 B H N i hi
  have LR:repl [T.i .i64 0] (H+1)=eJ (H+1) fun _=>0:=by
   generalize H+1=n
   induction n with
   |zero=>rfl
   |succ n ih=>
    rw[repl,ih]
    unfold eJ
    rw[List.range_succ_eq_map,List.map_cons,List.map_map]
    rfl
  have r1:(H+1)*8≤roomy:=by unfold roomy;omega
  have r2:H+1≤roomy:=by unfold roomy;omega
  have hsB: ∀e,aI (s++ [e]) B=⟨1,.cells (yK B H N i) 0 true⟩:=fun e=>by rw[rj zZ];exact hb
  have hsv: ∀e,Ev.stV l (s++ [e]) (.ptr .S B 1 i) (.isl .S (B+1+i) 1 0 (H+1) 1) 1=some (l,bD (s++ [e]) B ⟨1,.cells (yK B H N (i+1)) 0 true⟩):=fun e=>by
   rw[hZ (by rfl) (hsB e),dA,if_pos ⟨rfl,rfl,rfl,Nat.zero_le _,by omega⟩]
   show some (l,bD _ B ⟨1,.cells (splice (yK B H N i) i [.isl .S (B+1+i) 1 0 (H+1) 1]) 0 true⟩)=_
   rw[fv]
  simp(maxDischargeDepth:=6) only[qA,seval,vQ,K,h3,di,il,I,BR,hi,hw2,Ff,r1,r2,LR,R,adD,hsv]
  have gs: ∀j,j<B+1+i→j≠B→aI (bD (s++ [⟨1,.cells (eJ (H+1) fun _=>0) 0 false⟩]) B ⟨1,.cells (yK B H N (i+1)) 0 true⟩) j=aI s j:=fun j Z hjB=>by rw[gse,if_neg hjB,rj zZ]
  have gB:aI (bD (s++ [⟨1,.cells (eJ (H+1) fun _=>0) 0 false⟩]) B ⟨1,.cells (yK B H N (i+1)) 0 true⟩) B=⟨1,.cells (yK B H N (i+1)) 0 true⟩:=by rw[gse,if_pos rfl]
  have gP:aI (bD (s++ [⟨1,.cells (eJ (H+1) fun _=>0) 0 false⟩]) B ⟨1,.cells (yK B H N (i+1)) 0 true⟩) (B+1+i)=⟨1,.cells (eJ (H+1) fun _=>0) 0 false⟩:=by rw[gse,if_neg zZ,←R];exact Dy (k:=0)
  have l2:(bD (s++ [⟨1,.cells (eJ (H+1) fun _=>0) 0 false⟩]) B ⟨1,.cells (yK B H N (i+1)) 0 true⟩).length=B+1+i+1:=by rw[jD _ _ _ (by rw[List.length_append];omega),List.length_append,R];rfl
  generalize bD (s++ [⟨1,.cells (eJ (H+1) fun _=>0) 0 false⟩]) B ⟨1,.cells (yK B H N (i+1)) 0 true⟩=s2 at*
  generalize hD:DC pE 134 (.loop nZ) _=D
  obtain⟨f3,l3,s3,rfl,⟨rfl,hl3,hP3,LQ,t16⟩,yk⟩:=sa GO hD (rc1 N H i hi hN hH B (B+1+i) rfl NR nT (pO (nx i)) V (ch i) q1 q2 z1 z2 (by unfold pO;split <;> rfl) (C i) r (fun u=>DG i u hi) (yK B H N (i+1)) (ad2 B H N i hi) (FB _ _ _ _) W (T0+Sm i fun i=>Sm (H+1) (mS (ch i) (C i))) _ (fun s' P2=>X s' fun k hk=>(P2 k hk).trans ((gs k zZ zZ).trans (U k hk))) _ _ (by simp only[qA,seval,K,h3]) (by simp only[qA,seval,K,Y]) (by simp only[qA,seval,K,rk]) (by simp only[qA,seval,K,nq]) (by simp only[qA,seval,yH]) (by simp only[qA,seval,K,mA]) (by simp only[qA,seval,K,il]) (by simp only[qA,seval,I]) yW gB gP zZ)
  have f19:aa f3 19= .i .i64 (i:Int):=by rw[yk 19 zz];simp only[qA,seval,I]
  simp(maxDischargeDepth:=6) only[qA,seval,gd,f19,hw,t16]
  refine⟨by omega,(LQ B zZ).trans gB,fun j Z=> ?_,fun k hk=>(LQ k zZ).trans ((gs k zZ zZ).trans (U k hk)), ?_⟩
  ·by_cases e:j=i
   ·subst e;exact hP3
   ·rw[LQ _ zZ,gs _ zZ zZ,hr j zZ]
  ·rw[Nat.add_assoc];rfl
 ·rintro f l s K ⟨I,rfl,R,hb,hr,U,yH⟩
  simp only[qA,seval,gd,vQ,K,di,I,Int.lt_irrefl]
  have e:yK B H N N=(List.range N).map fun i=> .isl .S (B+1+i) 1 0 (H+1) 1:=by
   unfold yK
   refine List.map_congr_left fun g hg=> ?_
   rw[if_pos (List.mem_range.1 hg)]
  exact⟨R,⟨by rw[hb,e],hr⟩,U,yH⟩
omit hN hH iA iQ in
theorem Yg(B:Nat):yK B H N 0=List.replicate N .nilsl:=by
 unfold yK
 refine List.eq_replicate_iff.2 ⟨by simp,fun b r=> ?_⟩
 obtain⟨j,_,rfl⟩:=List.mem_map.1 r
 simp
omit hN hH iA iQ in
theorem Jp(n:Nat):repl [T.nilsl] n=List.replicate n .nilsl:=by
 induction n with
 |zero=>rfl
 |succ n ih=>rw[repl,ih,List.replicate_succ];rfl
theorem rc3(J:Nat→Nat→Bool)(hJ:nx=jN N J)(fr:Fr)(lh:aE ah)(s0:List ah)(h3:aa fr 3= .i .i64 (H:Int))(Y:aa fr 11=NR)(rk:aa fr 13=nT)(di:aa fr 14= .i .i64 (N:Int))(nq:aa fr 15= .isl .S 0 1 0 N 1)(yi:aa fr 16= .i .i64 0)(mA:aa fr 17= .i .i64 1)(U:s0= [⟨1,.cells (List.replicate N .nilsl) 0 true⟩]):
  Lp pE 134 vR fr lh s0 (.ext 0) fun f l s=>aa f 16= .i .i64 (gH (yj N H (cB N J ch) 6)):=by
 subst hJ
 refine cm GQ (fun k f l s=>aa f 17= .i .i64 ((k+1:Nat):Int)∧aa f 16= .i .i64 (gH (yj N H (cB N J ch) k))∧ ∃I,aa f 15= .isl .S I 1 0 N 1∧((k=0∧aI s I=⟨1,.cells (List.replicate N .nilsl) 0 true⟩∧I+1≤s.length)∨(k≠0∧Tb s I N H (fun i h=>gH (cB N J ch k i h))∧I+N+1≤s.length))) 6 ⟨mA,yi,0,nq,.inl ⟨rfl,by rw[U];rfl,by rw[U];exact Nat.le_refl _⟩⟩ ?_ ?_
 ·rintro k f l s hk K ⟨LK,Z,I,g15,O⟩
  have V:((k+1:Nat):Int)≤6:=zZ
  have hw:wr .i64 (((k+1:Nat):Int)+1)=((k+1+1:Nat):Int):=by rw[bI zZ];omega
  obtain⟨X,hwz,DG⟩: ∃X,(∀R,(∀j,j<s.length→aI R j=aI s j)→ ∃us,∀lh,fzV lh R false (.isl .S I 1 0 N 1)=some (X,us))∧ ∀i h,i<N→h≤H→ae pE 66 [X,pO (jN N J i),.i .i64 ((k+1:Nat):Int),.i .i64 (h:Int)] []=some (.i .i64 (gH (cC N J ch k i h)),[]):=by
   rcases O with⟨rfl,O,hb⟩|⟨h0,O,hb⟩
   ·exact⟨_,fun R P2=>alC ((P2 I zZ).trans O),fun i h _ _=>Yd _ _ h⟩
   ·refine⟨_,fun R P2=>(Tb.mk ((P2 I zZ).trans O.n) fun i hi=>(P2 _ zZ).trans (O.r i hi)).fz,fun i h hi hh=> ?_⟩
    have hg2: ∀g∈jN N J i,g<N:=fun g hg=>List.mem_range.1 (List.mem_filter.1 hg).1
    have ki:(jN N J i).length≤1000:=Nat.le_trans (Fu (J i) N) hN
    have hsl:IsSl (pO (jN N J i)) (jN N J i).length (ints ((jN N J i).map Int.ofNat)):=by
     unfold pO
     split
     ·rename_i h;rw[h];exact .inl ⟨rfl,rfl,rfl⟩
     ·exact .inr ⟨_,rfl⟩
    rw[ad0 N H (cB N J ch k) (jN N J i) hg2 ki _ hsl h hh _ zZ]
    obtain⟨m,rfl⟩: ∃m,k=m+1:=⟨k-1,by omega⟩
    rw[show Fv (jN N J i) (fun j=>cB N J ch (m+1) j h)=Sm N fun j=>sW (J i j)*cB N J ch (m+1) j h from adY N (J i) _]
    rfl
  have r1:N*24≤roomy:=by unfold roomy;omega
  have r2:N≤roomy:=by unfold roomy;omega
  have LR:=Jp N
  simp(maxDischargeDepth:=6) only[qA,seval,vR,K,di,LK,V,Ff,r1,r2,LR,I8]
  generalize hD:DC pE 134 (.loop vQ) _=D
  obtain⟨f3,l3,s3,rfl,⟨rfl,hl3,hT,LQ,W⟩,yk⟩:=sa GP hD (rc2 N H hN hH NR nT ch (jN N J) iA iQ s.length X (cC N J ch k) ((k+1:Nat):Int) DG I (yj N H (cB N J ch) k) _ (fun R P2=>hwz R fun j hj=>(P2 j hj).trans (rj hj)) _ _ (by simp only[qA,seval,K,h3]) (by simp only[qA,seval,K,Y]) (by simp only[qA,seval,K,rk]) (by simp only[qA,seval,K,di]) (by simp only[qA,seval,g15]) (by simp only[qA,seval,Z]) (by simp only[qA,seval,LK]) yW yW (by rw[Yg];exact Dy (k:=0)) zP)
  have f17:aa f3 17= .i .i64 ((k+1:Nat):Int):=by rw[yk 17 zz];simp only[qA,seval,LK]
  have f18:aa f3 18= .isl .S s.length 1 0 N 1:=by rw[yk 18 zz];simp only[qA,seval]
  have et:(yj N H (cB N J ch) k+Sm N fun i=>Sm (H+1) (mS (ch i) (cC N J ch k i)))=yj N H (cB N J ch) (k+1):=by
   have e1:(Sm N fun i=>Sm (H+1) (mS (ch i) (cC N J ch k i)))=Sm N fun i=>Sm (H+1) fun h=>cB N J ch (k+1) i h:=vg fun i _=>vg fun h _=>(ahE N J ch k i h).symm
   rw[e1,NY (fun i h=>cB N J ch (k+1) i h) (H+1) N]
   rfl
  rw[et]at W
  simp(maxDischargeDepth:=6) only[qA,seval,gd,f17,f18,hw,W]
  refine⟨s.length,rfl,.inr ⟨?_,by omega⟩⟩
  have:(fun i h=>gH (cB N J ch (k+1) i h))=fun i h=>gH (mS (ch i) (cC N J ch k i) h):=funext fun i=>funext fun h=>by rw[ahE];rfl
  rw[this]
  exact hT
 ·rintro f l s K ⟨LK,Z,_⟩
  have V: ¬((6+1:Nat):Int)≤6:=zZ
  simp only[qA,seval,gd,vR,LK]
  exact Z
end
def Q8(c:Ct)(fl:List Fl)(ops:List Int)(H:Nat):Int:=gH (yj fl.length H (cB fl.length (jn c fl) (iw ops)) 6)
def FC(t:Tt)(c:Ct)(ops:List Int)(H:Int):Int:=if eb t c=0 then(if BJ t.fl.length none ops=0 then(if H<0∨6<H then 5 else 0)else BJ t.fl.length none ops)else eb t c
section
variable(t:Tt)(c:Ct)(zT aT fT a7 a8 a9 aw aA az:T)(hT:ky t zT aT fT)(hC:kP c a7 a8 a9 aw aA az)(hA:Ds c)(hL: ∀f∈t.fl,f.nu.length≤fX)(hN:t.fl.length≤1000)
include hT hC hA hL hN
theorem ad3(ops:List Int)(K:T)(O:IsSl K ops.length (ints ops))(I:ops.length≤1000)(H:Int): ∃s,ae pE 28 [.agg [zT,aT,fT],.agg (aV c a7 a8 a9 aw aA az),K,.i .i64 H] []=some (.tup [.i .i64 (if FC t c ops H=0 then Q8 c t.fl ops H.toNat else 0),.i .i64 (FC t c ops H)],s):=by
 have r:=Dt t c zT aT fT a7 a8 a9 aw aA az hT hC
 have e1:=NH t c zT aT fT a7 a8 a9 aw aA az hT hC hA hL
 have e2:=Ye t c zT aT fT a7 a8 a9 aw aA az hT hC hN ops K O I
 have e3:=DF t c zT aT fT a7 a8 a9 aw aA az hT hC hN
 have QR:=O.froz
 have W:=O.froz1
 obtain⟨fc,X,f2⟩:=id hT.f
 have R:=X.lenI
 unfold aV at*
 unfold FC
 rw[av asx (by simp[c28])]
 by_cases h1:eb t c=0
 ·by_cases h2:BJ t.fl.length none ops=0
  ·by_cases h3:H<0∨6<H
   ·by_cases h4:H<0
    ·simp(maxDischargeDepth:=6) only[qA,seval,c28,r,e1,e2,h1,h2,h4,QR,Pz,Kw,true_or,AI]
    ·have h5:6<H:=zZ
     simp(maxDischargeDepth:=6) only[qA,seval,c28,r,e1,e2,h1,h2,h4,h5,QR,Pz,Kw,or_true,AI]
   ·obtain⟨m,rfl⟩: ∃m:Nat,H=(m:Int):=⟨H.toNat,by omega⟩
    have h4: ¬(m:Int)<0:=zZ
    have h5: ¬6<(m:Int):=zZ
    have Y:t.fl.length*24≤roomy:=by unfold roomy;omega
    have Z:t.fl.length≤roomy:=by unfold roomy;omega
    have LR:=Jp t.fl.length
    have hnf:froz1 (bG t.fl.length (((List.range t.fl.length).map (jN t.fl.length (jn c t.fl))).map pO))=true:=by unfold bG;split <;> rfl
    have iQ: ∀f,f<t.fl.length→ ∃q,∀kk,iaV (bG t.fl.length (((List.range t.fl.length).map (jN t.fl.length (jn c t.fl))).map pO)) (.i kk (f:Int)) 1=some (.vp (pO (jN t.fl.length (jn c t.fl) f)::q)):=fun f V=>by
     have I:(((List.range t.fl.length).map (jN t.fl.length (jn c t.fl))).map pO).length=t.fl.length:=zP
     unfold bG
     rw[if_neg zZ]
     refine⟨(((List.range t.fl.length).map (jN t.fl.length (jn c t.fl))).map pO).drop (f+1),fun kk=> ?_⟩
     rw[cT,if_pos ⟨by omega,by simpa using V,by rw[I];simp;omega⟩,Int.toNat_natCast,Nat.mul_one,List.drop_eq_getElem_cons (by rw[I];exact V)]
     simp
    generalize bG t.fl.length (((List.range t.fl.length).map (jN t.fl.length (jn c t.fl))).map pO)=nT at*
    simp(maxDischargeDepth:=6) only[qA,eS,seval,c28,r,e1,e2,e3,h1,h2,h4,h5,QR,Pz,Kw,aaB,R,Ff,Y,Z,LR]
    generalize hD:DC pE 134 (.loop vR) _=D
    obtain⟨f3,l3,s3,rfl,U,yk⟩:=sa GQ hD (rc3 t.fl.length m hN zZ (.sl (wX (inB t.fl.length ops)) t.fl.length false) nT (iw ops) (jN t.fl.length (jn c t.fl)) (X9 t.fl.length ops) iQ (jn c t.fl) rfl _ _ _ yW yW yW yW yW yW yW rfl)
    simp(maxDischargeDepth:=6) only[qA,seval,U]
    simp only[or_self,if_false,if_true]
    exact⟨_,rfl⟩
  ·simp(maxDischargeDepth:=6) only[qA,seval,c28,r,e1,e2,h1,h2,QR,Pz,Kw,AI]
 ·simp(maxDischargeDepth:=6) only[qA,seval,c28,r,e1,h1,Pz,AI]
end
def wm0:ah→Bool
 |⟨_,.cells _ 0 false⟩=>true
 |_=>false
def LgR(g:Lg)(c:List T):Prop:=c=Fk g (.sl (lP g.du) g.du.length false)
theorem LgR.len(g:Lg)(c:List T)(h:LgR g c):c.length=7:=by rw[h];rfl
section
variable(N:Nat)(J:Nat→Nat→Bool)(ch:Nat→Bool)(ok:List (Int×Bool)→Bool)(lg:List (Int×Bool)→Lg)
def rL(r:List (Int×Bool)→Nat→Nat→List Lg)(x:List (Int×Bool))(f h:Nat):List Lg:=(if ok x=true then [lg x]else [])++(jN N J f).flatMap fun g=>r x g h
def ed:Nat→List (Int×Bool)→Nat→Nat→List Lg
 |0,_,_,_=> []
 |n+1,d,f,h=>(if ch f=true then rL N J ok lg (ed n) (d++ [((f:Int),false)]) f h else [])++(if h=0 then []else rL N J ok lg (ed n) (d++ [((f:Int),true)]) f (h-1))
end
structure Vs (s:List ah) (F:T) (d:List (Int×Bool)) (out:List Lg):Prop where
 b0: ∃ov,aI s 0=⟨1,.cells [ov] 0 true⟩∧((ov= .nilsl∧out= []∧s.length≤4)∨ ∃g cs,ov= .isl .S 4 g 0 out.length 7∧aI s 4=⟨g,.cells cs 0 false⟩∧aC LgR out cs∧s.length=5)
 b1: ∃dv,aI s 1=⟨1,.cells [dv] 0 true⟩∧((dv= .nilsl∧d= []∧s.length=3)∨ ∃g st,dv= .isl .S 3 g 0 d.length 2∧aI s 3=⟨g,.cells (lP d++st) 0 false⟩∧4≤s.length)
 b2:aI s 2=⟨1,.cells [F] 0 true⟩
def GF:ak→ak
 | .seq a _=>a
 |c=>c
def Kg:ak→ak
 | .seq _ b=>b
 |c=>c
section
variable(N:Nat)(F:T)(d:List (Int×Bool))(out:List Lg)(f:Nat)(b:Bool)
end
theorem Yh{E:Env}{n:Nat}{a:ak}{fr:Fr}{lh:aE ah}{sh:List ah}{D:Option (Out×St)}(r:DC E n a ⟨fr,lh,sh⟩=D){P:Fr→aE ah→List ah→Prop}(h: ∃f l s,DC E n a ⟨fr,lh,sh⟩=some (.nrm,⟨f,l,s⟩)∧P f l s):
  ∃f l s,D=some (.nrm,⟨f,l,s⟩)∧P f l s∧DC E n a ⟨fr,lh,sh⟩=some (.nrm,⟨f,l,s⟩):=by
 obtain⟨f,l,s,e,p⟩:=h
 exact⟨f,l,s,r.symm.trans e,p,e⟩
section
end
theorem Bh{m:Nat}{lh:aE ah}{s:List ah}{k g n sz:Nat}{cs:List T}(h:aI s k=⟨g,.cells cs 0 false⟩)(r:cs.length=n*sz):fzW m lh s false (.isl .S k g 0 n sz)=some (.sl cs n false,[(.S,k,⟨g,.cells cs cs.length false⟩)]):=by
 have D:(St.mk .nil lh s).get .S k=aI s k:=rfl
 unfold fzW Ev.fz
 simp only[Bool.false_and,Bool.false_eq_true,if_false,Q.run,D,h,if_true]
 rw[if_pos zZ,List.drop_zero,←r,List.take_length]
 rfl
def alD(out:List Lg)(v:T):Prop:= ∃cs,IsSl v out.length cs∧aC LgR out cs
section
def jP(N:Nat)(J:Nat→Nat→Bool)(ch:Nat→Bool)(ok:List (Int×Bool)→Bool)(lg:List (Int×Bool)→Lg)(H:Nat):List Lg:=(List.range N).flatMap fun f=>ed N J ch ok lg 6 [] f H
end
end Go.Proofs.YtnkgnjecmfkcfaaGreat
namespace Go.Ev
open Go
theorem Yi{E:Env}{call:jB}{n:Nat}{fr:Fr}{lh:aE ah}{sh:List ah}{ds:List (List Nat×aF)}{bo:List FP}{u:List Nat}{r sz bytes:Nat}{s x:aP}{D:Bool}(hs:rd fr s= .nilsl)(hx:rd fr x= .nilsl):aK E call n ((u,⟨some r,.app sz bytes s x false D,none⟩)::ds) bo ⟨fr,lh,sh⟩=ke E call n ds (bo++ [fF]) (ai E call n [⟨some r,.app sz bytes s x false D,none⟩] ⟨fr,lh,sh⟩):=by
 rw[mJ (fp:=fF),qe,if_pos rfl]
 intro I
 obtain⟨v,O,hr,R⟩:=pD (q:=jA r sz bytes .nilsl .nilsl false D) (by rfl) (by rw[dh];show jA _ _ _ (rd fr s) (rd fr x) _ _=_;rw[hs,hx];rfl) I
 have K:(jA r sz bytes .nilsl .nilsl false D).run (St.mk fr lh sh).get (St.mk fr lh sh).sh.length=some (.val .nilsl []):=rfl
 rw[K]at hr
 cases hr
 exact R rfl
end Go.Ev
namespace Go.Proofs.YtnkgnjecmfkcfaaGreat
open Go Go.Ev
def FD(lh:aE ah)(cv:T)(cs:List Nat):Prop:=IsSl cv cs.length (ints (cs.map Int.ofNat))∨bh lh cv 48 1 cs.length (ints (cs.map Int.ofNat))
def cZ:ak→ak
 | .seq _ (.seq (.block _ (.seq _ t)) _)=>t
 |c=>c
def sX:ak→ak→ak
 | .seq a (.seq (.block i (.seq b _)) z),t=> .seq a (.seq (.block i (.seq b t)) z)
 |c,_=>c
theorem Q9:bB=sX bB (cZ bB):=nr rfl
theorem Ra:cZ bB= .seq (GF (cZ bB)) (.seq (.seq (GF (GF (Kg (cZ bB)))) (Kg (GF (Kg (cZ bB))))) (Kg (Kg (cZ bB)))):=nr rfl
def DtV(d:List (Int×Bool))(r:T):Prop:=(d= []∧r= .nilsl)∨(d≠ []∧r= .sl (lP d) d.length false)
theorem ex1(d:List (Int×Bool))(dT:T)(hd:DtV d dT)(RX:d.length≤5)(f:Nat)(b:Bool)(cs:List Nat)(k:Nat)(hk:k<cs.length)(hf:cs[k]=f)(cv:T)(fr:Fr)(lh:aE ah)(s:List ah)(hc:FD lh cv cs)(h3:aa fr 3=dT)(O:aa fr 15=cv)(R:aa fr 17= .i .i64 (k:Int))(U:aa fr 18= .i .i64 (if b=true then 1 else 0)):
  ∃f' X,DC pE 111 (GF (cZ bB)) ⟨fr,lh,s⟩=some (.nrm,⟨f',X,s⟩)∧(∃j g,(j=77∨j=86)∧aa f' 19= .isl .L j g 0 (d.length+1) 2∧ab X j=⟨g,.cells (lP (d++ [((f:Int),b)])) 0 false⟩)∧ ∀j,j≠77→j≠86→ab X j=ab lh j:=by
 have K:lP (d++ [((f:Int),b)])=lP d++ [.i .i64 (f:Int),.b b]:=by rw[NO];rfl
 have LR:repl [T.i .i64 0,.b false] 1= [.i .i64 0,.b false]:=rfl
 have V:(d.length+1)*16≤roomy:=by unfold roomy;omega
 have W:d.length*16≤roomy:=by unfold roomy;omega
 have r1:16≤roomy:=by unfold roomy;omega
 have r:=mz d
 have Am:(ints (cs.map Int.ofNat))[k]? =some (.i .i64 (f:Int)):=by
  subst hf
  simp[ints,hk]
 have hk1:k+1≤cs.length:=hk
 rcases hc with hc|hc
 ·have D:=fun kk=>hc.ia (sz:=1) (k:=k) (kk:=kk) (by rw[dR,List.length_map];omega) hk
  have Y:(ints (cs.map Int.ofNat)).drop (k*1)= .i .i64 (f:Int)::(ints (cs.map Int.ofNat)).drop (k+1):=by
   rw[Nat.mul_one,List.drop_eq_getElem_cons (by simpa[ints]using hk)]
   simp[ints,hf]
  rw[Y]at D
  rcases hd with⟨rfl,rfl⟩|⟨h0,rfl⟩
  ·have I:At lh 77 2 16 .nilsl (0,[])=some (.nilsl,lh):=rfl
   cases b
   all_goals
    simp(maxDischargeDepth:=6) only[qA,bj,fC,seval,aH,cZ,GF,bB,h3,O,R,U,D,LR,Yi,I,appW,r1]
    refine⟨_,_,rfl,⟨86,(ab lh 86).g+1,.inr rfl, ?_, ?_⟩,fun j h1 h2=> ?_⟩
    ·simp only[qA,seval]
    ·simp only[qA,seval];rfl
    ·rw[bq _ _ h2]
  ·obtain⟨m,hm⟩: ∃m,d.length=m+1:=⟨d.length-1,by have:=List.length_pos_iff.2 h0;omega⟩
   rw[hm]at h3 r V W ⊢
   have Z:0<(m+1):=zZ
   cases b
   all_goals
    simp(maxDischargeDepth:=6) only[qA,bj,fC,seval,aH,cZ,GF,bB,h3,O,R,U,D,LR,appW,r,V,W]
    refine⟨_,_,rfl,⟨77,(ab lh 77).g+1+1,.inl rfl, ?_, ?_⟩,fun j h1 h2=> ?_⟩
    ·simp only[qA,seval]
    ·simp only[qA,seval];rw[K]
    ·simp only[qA,seval,h1]
 ·rcases hc with⟨h1,_,_⟩|⟨g2,wm,rfl,o48,aI8,_⟩
  ·omega
  rcases hd with⟨rfl,rfl⟩|⟨h0,rfl⟩
  ·have I:At lh 77 2 16 .nilsl (0,[])=some (.nilsl,lh):=rfl
   cases b
   all_goals
    simp(maxDischargeDepth:=6) only[qA,bj,fC,seval,aH,cZ,GF,bB,h3,O,R,U,o48,Am,hk,LR,Yi,I,appW,r1]
    refine⟨_,_,rfl,⟨86,(ab lh 86).g+1,.inr rfl, ?_, ?_⟩,fun j h1 h2=> ?_⟩
    ·simp only[qA,seval]
    ·simp only[qA,seval];rfl
    ·rw[bq _ _ h2]
  ·obtain⟨m,hm⟩: ∃m,d.length=m+1:=⟨d.length-1,by have:=List.length_pos_iff.2 h0;omega⟩
   rw[hm]at h3 r V W ⊢
   have Z:0<(m+1):=zZ
   cases b
   all_goals
    simp(maxDischargeDepth:=6) only[qA,bj,AJ,fC,seval,aH,cZ,GF,bB,h3,O,R,U,o48,Am,hk,LR,appW,r,V,W]
    refine⟨_,_,rfl,⟨77,(ab lh 77).g+1+1,.inl rfl, ?_, ?_⟩,fun j h1 h2=> ?_⟩
    ·simp only[qA,seval]
    ·simp only[qA,seval];rw[K]
    ·simp only[qA,seval,h1]
def LgQ(g:Lg)(c:List T):Prop:= ∃v,c=Fk g v∧LgT g v
theorem LgQ.len(g:Lg)(c:List T)(h:LgQ g c):c.length=7:=by obtain⟨v,rfl,_⟩:=h;rfl
def Es(s:List ah)(r:T)(out:List Lg):Prop:=(r= .nilsl∧out= []∧s= [])∨ ∃g cs,r= .isl .S 0 g 0 out.length 7∧s= [⟨g,.cells cs 0 false⟩]∧aC LgQ out cs
section
variable(t:Tt)(c:Ct)(zT aT fT a7 a8 a9 aw aA az:T)(hT:ky t zT aT fT)(hC:kP c a7 a8 a9 aw aA az)(hA:Ds c)(hL: ∀f∈t.fl,f.nu.length≤fX)(hK:eb t c=0)
include hT hC hA hL hK
theorem ex2(x:List (Int×Bool))(hx:fx c t.fl x=0)(j g:Nat)(hj:j=77∨j=86)(out:List Lg)(hb:out.length≤1000000000)(lv:T)(fr:Fr)(lh:aE ah)(s:List ah)(h2:aa fr 2=lv)(V:aa fr 7= .ptr .L 7 1 0)(W:aa fr 8= .ptr .L 8 1 0)(Fy:aa fr 19= .isl .L j g 0 x.length 2)(X:ab lh 7=⟨1,.cells [zT,aT,fT] 0 true⟩)(Y:ab lh 8=⟨1,.cells (aV c a7 a8 a9 aw aA az) 0 true⟩)(K:ab lh j=⟨g,.cells (lP x) 0 false⟩)(hE:Es s lv out):
  ∃f' Z s',DC pE 111 (GF (Kg (cZ bB))) ⟨fr,lh,s⟩=some (.nrm,⟨f',Z,s'⟩)∧Es s' (aa f' 2) (out++if jm t c x=true then [cD t c x]else [])∧(∃wm,ab Z j=⟨g,.cells (lP x) wm false⟩)∧ ∀i,i≠20→i≠j→ab Z i=ab lh i:=by
 obtain⟨x1,x6,_,_⟩:=kU hx
 have hcl:=mz x
 have hDu:uX x (.sl (lP x) x.length false):=uX.of (.inr ⟨_,rfl⟩)
 obtain⟨v,e1,e2⟩:=adV t c zT aT fT a7 a8 a9 aw aA az hT hC hA hL x _ hDu zZ
 have hz:=Dt t c zT aT fT a7 a8 a9 aw aA az hT hC
 unfold QV alj at e1 e2
 rw[if_neg (by simp[hK]),if_neg (by simp[hx])]at e1 e2
 have hv:=e2.froz1
 have hvc:=e2.cells
 have r:x.length*2≤(lP x).length:=zZ
 have D:(lP x).take (x.length*2)=lP x:=List.take_of_length_le zZ
 have j7: ¬7=j:=zZ
 have j8: ¬8=j:=zZ
 have I: ¬20=j:=zZ
 have Rb: ¬j=20:=zZ
 have LR:repl [T.nilsl,.i .i64 0,.i .i64 0,.s [],.s [],.i .i64 0,.i .i64 0] 1= [T.nilsl,.i .i64 0,.i .i64 0,.s [],.s [],.i .i64 0,.i .i64 0]:=rfl
 unfold aV at*
 have r1:88≤roomy:=by unfold roomy;omega
 cases ho:jm t c x
 ·rw[ho]at e1 e2
  unfold Fk at e1
  simp only[Bool.false_eq_true,if_false]at e1
  cases O:scalar (T.tup [T.agg [v,.i .i64 QU.rp,.i .i64 QU.rl,T.s QU.fr,T.s QU.to,.i .i64 QU.co,.i .i64 QU.cr],.i .i64 15])
  all_goals
   simp(maxDischargeDepth:=6) only[qA,seval,cZ,GF,Kg,bB,V,W,Fy,X,Y,K,hz,e1,aiW,r,D,O,I]
   refine⟨_,_,_,rfl, ?_, ?_,fun i R U=> ?_⟩
   ·simp(maxDischargeDepth:=6) only[qA,seval,h2];exact hE
   ·first|(refine⟨(lP x).length, ?_⟩;simp(maxDischargeDepth:=6) only[qA,seval,Rb];done)|(refine⟨0, ?_⟩;simp(maxDischargeDepth:=6) only[qA,seval,Rb,K];done)
   ·simp(maxDischargeDepth:=6) only[qA,seval,R,U]
 ·rw[ho]at e1 e2
  unfold Fk at e1
  simp only[if_true]at e1 e2
  rcases hE with⟨rfl,rfl,rfl⟩|⟨g2,cs,rfl,rfl,b1⟩
  ·cases O:scalar (T.tup [T.agg [v,.i .i64 (cD t c x).rp,.i .i64 (cD t c x).rl,T.s (cD t c x).fr,T.s (cD t c x).to,.i .i64 (cD t c x).co,.i .i64 (cD t c x).cr],.i .i64 0])
   all_goals
    simp(maxDischargeDepth:=6) only[qA,eS,seval,cZ,GF,Kg,bB,h2,V,W,Fy,X,Y,K,hz,e1,aiW,r,D,hv,O,I,LR,cM,aY,cP,dc,r1]
    refine⟨_,_,_,rfl, ?_, ?_,fun i R U=> ?_⟩
    ·simp(maxDischargeDepth:=6) only[qA,seval]
     exact .inr ⟨1,_,rfl,rfl,aC.one ⟨v,rfl,e2⟩⟩
    ·first|(refine⟨(lP x).length, ?_⟩;simp(maxDischargeDepth:=6) only[qA,seval,Rb];done)|(refine⟨0, ?_⟩;simp(maxDischargeDepth:=6) only[qA,seval,Rb,K];done)
    ·simp(maxDischargeDepth:=6) only[qA,seval,R,U]
  ·have aJb:=b1.len LgQ.len
   have r2:(out.length+1)*88≤roomy:=by unfold roomy;omega
   have hcs:out.length*7=cs.length:=zZ
   cases O:scalar (T.tup [T.agg [v,.i .i64 (cD t c x).rp,.i .i64 (cD t c x).rl,T.s (cD t c x).fr,T.s (cD t c x).to,.i .i64 (cD t c x).co,.i .i64 (cD t c x).cr],.i .i64 0])
   all_goals
    simp(maxDischargeDepth:=6) only[qA,eS,seval,cZ,GF,Kg,bB,h2,V,W,Fy,X,Y,K,hz,e1,aiW,r,D,hv,O,I,LR,cM,aY,dw,dU,cz,r2,hcs]
    refine⟨_,_,_,rfl, ?_, ?_,fun i R U=> ?_⟩
    ·simp(maxDischargeDepth:=6) only[qA,seval]
     exact .inr ⟨g2+1,_,by rw[List.length_append];rfl,rfl,aC.append b1 (aC.one ⟨v,rfl,e2⟩)⟩
    ·first|(refine⟨(lP x).length, ?_⟩;simp(maxDischargeDepth:=6) only[qA,seval,Rb];done)|(refine⟨0, ?_⟩;simp(maxDischargeDepth:=6) only[qA,seval,Rb,K];done)
    ·simp(maxDischargeDepth:=6) only[qA,seval,R,U]
end
section
variable(t:Tt)(c:Ct)(zT aT fT a7 a8 a9 aw aA az:T)(hT:ky t zT aT fT)(hC:kP c a7 a8 a9 aw aA az)(mT nT:T)(hm:froz mT=true)(hn:froz nT=true)
include hT hC hm hn
theorem ex3(x:List (Int×Bool))(j g V:Nat)(hj:j=77∨j=86)(out D:List Lg)(I:T)(H h H':Nat)(hH:(H:Int)-(h:Int)=(H':Int))(W:H≤6∧h≤1)(fr:Fr)(lh:aE ah)(s:List ah)(h2:aa fr 2=I)(h4:aa fr 4=mT)(h5:aa fr 5=nT)(h6:aa fr 6= .i .i64 (H:Int))(X:aa fr 7= .ptr .L 7 1 0)(Y:aa fr 8= .ptr .L 8 1 0)(Z:aa fr 18= .i .i64 (h:Int))(Fy:aa fr 19= .isl .L j g 0 x.length 2)(o7:ab lh 7=⟨1,.cells [zT,aT,fT] 0 true⟩)(o8:ab lh 8=⟨1,.cells (aV c a7 a8 a9 aw aA az) 0 true⟩)(oj:ab lh j=⟨g,.cells (lP x) V false⟩)(hE:Es s I out)
  (IH: ∃v r,ae pE 30 [.agg [zT,aT,fT],.agg (aV c a7 a8 a9 aw aA az),I,.sl (lP x) x.length false,mT,nT,.i .i64 (H':Int)] s=some (v,r)∧Es r v D):
  ∃R U r,DC pE 111 (Kg (Kg (cZ bB))) ⟨fr,lh,s⟩=some (.nrm,⟨R,U,r⟩)∧Es r (aa R 2) D∧ ∀i,i≠j→ab U i=ab lh i:=by
 have hz:=Dt t c zT aT fT a7 a8 a9 aw aA az hT hC
 obtain⟨v,r,e1,e2⟩:=IH
 have hcl:=mz x
 have K:x.length*2≤(lP x).length:=zZ
 have O:(lP x).take (x.length*2)=lP x:=List.take_of_length_le zZ
 have hw:wr .i64 ((H:Int)-(h:Int))=(H':Int):=by rw[bI zZ,hH]
 have RJ:fzV lh s true I=some (I,[]):=by
  rcases hE with⟨rfl,_,_⟩|⟨g2,cs,rfl,_,_⟩ <;> rfl
 unfold aV at*
 simp(maxDischargeDepth:=6) only[qA,AK,seval,cZ,Kg,bB,h2,h4,h5,h6,X,Y,Z,Fy,o7,o8,oj,hz,e1,aAw,K,O,hm,hn,hw,RJ]
 exact⟨_,_,_,rfl,by simp only[qA,seval];exact e2,fun i hi=>by rw[bq _ _ hi]⟩
end
theorem Jq(c:Ct)(fl:List Fl): ∀(d:List (Int×Bool)) (k l:Int×Bool),pM c fl (d++ [k,l])=(pM c fl (d++ [k])&&pn c fl k.1 l.1)
 | [],k,l=>by simp[pM]
 | [a],k,l=>by simp[pM]
 |a::b::r,k,l=>by
  have:=Jq c fl (b::r) k l
  simp only[List.cons_append]at this ⊢
  rw[pM,pM,this,Bool.and_assoc]
theorem Yj(c:Ct)(fl:List Fl)(i:Int)(f:Nat):pn c fl i (f:Int)=jn c fl i.toNat f:=by
 unfold pn jn
 rw[Int.toNat_natCast]
 cases fl[i.toNat]? <;> cases fl[f]? <;> rfl
def pI(N:Nat)(J:Nat→Nat→Bool)(d:List (Int×Bool)):List Nat:=match d.getLast? with
 |none=>List.range N
 |some k=>jN N J k.1.toNat
theorem Rc(N:Nat)(J:Nat→Nat→Bool)(d:List (Int×Bool))(f:Nat)(b:Bool):pI N J (d++ [((f:Int),b)])=jN N J f:=by
 unfold pI;rw[List.getLast?_append];simp
theorem N5(N:Nat)(J:Nat→Nat→Bool)(d:List (Int×Bool)){f:Nat}(h:f∈pI N J d):f<N:=by
 unfold pI at h
 split at h
 ·exact List.mem_range.1 h
 ·exact List.mem_range.1 (List.mem_filter.1 h).1
theorem Yk(N:Nat)(J:Nat→Nat→Bool)(d:List (Int×Bool)):(pI N J d).length≤N:=by
 unfold pI
 split
 ·rw[List.length_range];exact Nat.le_refl _
 ·exact Fu _ _
theorem Rd(c:Ct)(fl:List Fl)(d:List (Int×Bool))(f:Nat)(b:Bool)(hd:d= []∨fx c fl d=0)(R:d.length≤5)(I:f∈pI fl.length (jn c fl) d):fx c fl (d++ [((f:Int),b)])=0:=by
 have K:=N5 _ _ _ I
 have r:lK fl.length (f:Int)=true:=by unfold lK;simpa using K
 have D:(d++ [((f:Int),b)]).all (fun k=>lK fl.length k.1)=true∧pM c fl (d++ [((f:Int),b)])=true:=by
  rcases hd with rfl|hd
  ·exact⟨by simpa using r,by simp[pM]⟩
  ·obtain⟨h1,h2,h3,h4⟩:=kU hd
   obtain⟨e,k,rfl⟩: ∃e k,d=e++ [k]:=⟨d.dropLast,d.getLast (by intro h;rw[h]at h1;simp at h1),(List.dropLast_concat_getLast _).symm⟩
   refine⟨?_, ?_⟩
   ·rw[List.all_append,Bool.and_eq_true]
    exact⟨List.all_eq_true.2 h3,by simpa using r⟩
   ·rw[List.append_assoc]
    show pM c fl (e++ [k,((f:Int),b)])=true
    rw[Jq,h4,Bool.true_and,Yj]
    unfold pI at I
    rw[List.getLast?_append]at I
    have O:f∈jN fl.length (jn c fl) k.1.toNat:=by simpa using I
    exact(List.mem_filter.1 O).2
 unfold fx
 rw[List.length_append,List.length_singleton,if_neg zZ,if_neg zZ,if_pos D.1,if_pos D.2]
section
variable(t:Tt)(c:Ct)(zT aT fT a7 a8 a9 aw aA az:T)(hT:ky t zT aT fT)(hC:kP c a7 a8 a9 aw aA az)(hA:Ds c)(hL: ∀f∈t.fl,f.nu.length≤fX)(hK:eb t c=0)(hN:t.fl.length≤1000)(mT nT:T)(hm:froz mT=true)(hn:froz nT=true)(ch:Nat→Bool)
 (iA: ∀f,f<t.fl.length→ ∃q,∀kk,iaV mT (.i kk (f:Int)) 1=some (.vp (.b (ch f)::q))) (M6:lenI mT=some (.i .i64 (t.fl.length:Int)))
 (iQ: ∀f,f<t.fl.length→ ∃q,∀kk,iaV nT (.i kk (f:Int)) 1=some (.vp (pO (jN t.fl.length (jn c t.fl) f)::q)))
def ExP(t:Tt)(c:Ct)(zT aT fT a7 a8 a9 aw aA az mT nT:T)(ch:Nat→Bool)(n:Nat):Prop:=
 ∀(d:List (Int×Bool)) (r:T) (H:Nat) (s:List ah) (D:T) (out:List Lg),d.length+n=6→DtV d r→(d= []∨fx c t.fl d=0)→H≤6→Es s D out→out.length+((pI t.fl.length (jn c t.fl) d).flatMap fun f=>ed t.fl.length (jn c t.fl) ch (jm t c) (cD t c) n d f H).length≤1000000000→
  ∃v I,ae pE 30 [.agg [zT,aT,fT],.agg (aV c a7 a8 a9 aw aA az),D,r,mT,nT,.i .i64 (H:Int)] s=some (v,I)∧Es I v (out++(pI t.fl.length (jn c t.fl) d).flatMap fun f=>ed t.fl.length (jn c t.fl) ch (jm t c) (cD t c) n d f H)
include hT hC hA hL hK hN hm hn
theorem axr(n:Nat)(IH:ExP t c zT aT fT a7 a8 a9 aw aA az mT nT ch n)(d:List (Int×Bool))(W:T)(Kh:DtV d W)(hd:d= []∨fx c t.fl d=0)(RX:d.length+(n+1)=6)(f:Nat)(b:Bool)(hf:f∈pI t.fl.length (jn c t.fl) d)(cs:List Nat)(k:Nat)(hk:k<cs.length)(Ao:cs[k]=f)(cv:T)(H H':Nat)(X:H≤6)(hH:H=H'+if b=true then 1 else 0)(Y:T)(out:List Lg)(hb:out.length+(rL t.fl.length (jn c t.fl) (jm t c) (cD t c) (ed t.fl.length (jn c t.fl) ch (jm t c) (cD t c) n) (d++ [((f:Int),b)]) f H').length≤1000000000)
  (fr:Fr) (lh:aE ah) (s:List ah) (hc:FD lh cv cs) (h2:aa fr 2=Y) (h3:aa fr 3=W) (h4:aa fr 4=mT) (h5:aa fr 5=nT) (h6:aa fr 6= .i .i64 (H:Int)) (h7:aa fr 7= .ptr .L 7 1 0) (h8:aa fr 8= .ptr .L 8 1 0) (nq:aa fr 15=cv) (mA:aa fr 17= .i .i64 (k:Int)) (il:aa fr 18= .i .i64 (if b=true then 1 else 0)) (o7:ab lh 7=⟨1,.cells [zT,aT,fT] 0 true⟩) (o8:ab lh 8=⟨1,.cells (aV c a7 a8 a9 aw aA az) 0 true⟩) (hE:Es s Y out):
  ∃f' l' s',DC pE 111 (cZ bB) ⟨fr,lh,s⟩=some (.nrm,⟨f',l',s'⟩)∧Es s' (aa f' 2) (out++rL t.fl.length (jn c t.fl) (jm t c) (cD t c) (ed t.fl.length (jn c t.fl) ch (jm t c) (cD t c) n) (d++ [((f:Int),b)]) f H')∧ ∀i,i≠77→i≠86→i≠20→ab l' i=ab lh i:=by
 have _:=hN
 have RW:=Rd c t.fl d f b hd zZ hf
 have K:=Rc t.fl.length (jn c t.fl) d f b
 have Z:(d++ [((f:Int),b)]).length=d.length+1:=by rw[List.length_append];rfl
 have hxn:d++ [((f:Int),b)]≠ []:=zP
 obtain⟨f1,l1,e1,⟨j,g,D,r,kj⟩,U⟩:=ex1 d W Kh zZ f b cs k hk Ao cv fr lh s hc h3 nq mA il
 rw[←Z]at r
 generalize d++ [((f:Int),b)]=x at*
 have V:=fun j D=>fV e1 j D
 unfold rL at hb ⊢
 rw[List.length_append]at hb
 obtain⟨f2,l2,s2,e2,O,⟨wm,kj2⟩,k2⟩:=ex2 t c zT aT fT a7 a8 a9 aw aA az hT hC hA hL hK x RW j g D out zZ Y f1 l1 s ((V 2 zz).trans h2) ((V 7 zz).trans h7) ((V 8 zz).trans h8) r ((U 7 zz zz).trans o7) ((U 8 zz zz).trans o8) kj hE
 have p2:=fun j D=>fV e2 j D
 have I: ∀j v,(bX (GF (cZ bB))).contains j=false→(bX (GF (Kg (cZ bB)))).contains j=false→aa fr j=v→aa f2 j=v:=fun j v a1 a2 e=>(p2 j a2).trans ((V j a1).trans e)
 have to: ∀i v,i≠77→i≠86→i≠20→ab lh i=v→ab l2 i=v:=fun i v a1 a2 a3 e=>(k2 i a3 zZ).trans ((U i a1 a2).trans e)
 obtain⟨v3,s3,d3,R⟩:=IH x (.sl (lP x) x.length false) H' s2 _ _ zZ (.inr ⟨hxn,rfl⟩) (.inr RW) zZ O (by rw[K,List.length_append];omega)
 rw[K,List.append_assoc]at R
 obtain⟨f3,l3,s4,e3,hE4,k3⟩:=ex3 t c zT aT fT a7 a8 a9 aw aA az hT hC mT nT hm hn x j g wm D _ _ _ H (if b=true then 1 else 0) H' (by rw[hH];cases b <;> simp) ⟨X,by cases b <;> simp⟩ f2 l2 s2 rfl (I 4 _ zz zz h4) (I 5 _ zz zz h5) (I 6 _ zz zz h6) (I 7 _ zz zz h7) (I 8 _ zz zz h8) (by rw[I 18 _ zz zz il];cases b <;> rfl) ((p2 19 zz).trans r) (to 7 _ zz zz zz o7) (to 8 _ zz zz zz o8) kj2 O ⟨v3,s3,d3,R⟩
 refine⟨f3,l3,s4, ?_,hE4,fun i i1 i2 i3=>(k3 i zZ).trans ((k2 i i3 zZ).trans (U i i1 i2))⟩
 rw[Ra,Ew,e1,mb,Ew]
 have e2':DC pE 111 (.seq (GF (GF (Kg (cZ bB)))) (Kg (GF (Kg (cZ bB))))) ⟨f1,l1,s⟩=some (.nrm,⟨f2,l2,s2⟩):=e2
 rw[e2',mb,e3]
include iA
theorem axs(n:Nat)(IH:ExP t c zT aT fT a7 a8 a9 aw aA az mT nT ch n)(d:List (Int×Bool))(dT:T)(Kh:DtV d dT)(hd:d= []∨fx c t.fl d=0)(RX:d.length+(n+1)=6)(f:Nat)(hf:f∈pI t.fl.length (jn c t.fl) d)(cs:List Nat)(k:Nat)(hk:k<cs.length)(Ao:cs[k]=f)(cv:T)(H:Nat)(hH6:H≤6)(out:List Lg)(hb:out.length+(ed t.fl.length (jn c t.fl) ch (jm t c) (cD t c) (n+1) d f H).length≤1000000000)
  (fr:Fr) (lh:aE ah) (s:List ah) (hc:FD lh cv cs) (h3:aa fr 3=dT) (h4:aa fr 4=mT) (h5:aa fr 5=nT) (h6:aa fr 6= .i .i64 (H:Int)) (h7:aa fr 7= .ptr .L 7 1 0) (h8:aa fr 8= .ptr .L 8 1 0) (nq:aa fr 15=cv) (mA:aa fr 17= .i .i64 (k:Int)) (il:aa fr 18= .i .i64 0) (o7:ab lh 7=⟨1,.cells [zT,aT,fT] 0 true⟩) (o8:ab lh 8=⟨1,.cells (aV c a7 a8 a9 aw aA az) 0 true⟩) (hE:Es s (aa fr 2) out):
  Lp pE 111 bB fr lh s (.ext 4) fun U V s'=>Es s' (aa U 2) (out++ed t.fl.length (jn c t.fl) ch (jm t c) (cD t c) (n+1) d f H)∧ ∀i,i≠77→i≠86→i≠20→ab V i=ab lh i:=by
 obtain⟨q,I⟩:=iA f (N5 _ _ _ hf)
 have ht:=fun b H' hH=>axr t c zT aT fT a7 a8 a9 aw aA az hT hC hA hL hK hN mT nT hm hn ch n IH d dT Kh hd RX f b hf cs k hk Ao cv H H' hH6 hH
 have hwt:=Q9
 have hwr: ∀j,(bX (cZ bB)).contains j=false→ ∀(fr cK:Fr) lh s V s',DC pE 111 (cZ bB) ⟨fr,lh,s⟩=some (.nrm,⟨cK,V,s'⟩)→aa cK j=aa fr j:=fun j hj fr cK lh s V s' e=>fV e j hj
 have alE:=hwr 18 zz
 refine cm GS (fun k U V s'=>aa U 18= .i .i64 (k:Int)∧Es s' (aa U 2) (out++if k=0 then []else if k=1 then(if ch f=true then rL t.fl.length (jn c t.fl) (jm t c) (cD t c) (ed t.fl.length (jn c t.fl) ch (jm t c) (cD t c) n) (d++ [((f:Int),false)]) f H else [])else ed t.fl.length (jn c t.fl) ch (jm t c) (cD t c) (n+1) d f H)∧ ∀i,i≠77→i≠86→i≠20→ab V i=ab lh i) 2 ⟨il,by simpa using hE,fun _ _ _ _=>rfl⟩ ?_ ?_
 ·rintro h U V s' hh r ⟨sP,LU,O⟩
  have p7:=(O 7 zz zz zz).trans o7
  have p8:=(O 8 zz zz zz).trans o8
  have W:FD V cv cs:=hc.imp id fun h=>h.congr (O 48 zz zz zz)
  have K:(∃q2,∀kk,iaV cv (.i kk (k:Int)) 1=some (.vp (.i .i64 (f:Int)::q2)))∨ ∃g wm n cc,cv= .isl .L 48 g 0 n 1∧k<n∧ab V 48=⟨g,.cells cc wm false⟩∧cc[k]? =some (.i .i64 (f:Int))∧k+1≤cc.length:=by
   have Am:(ints (cs.map Int.ofNat))[k]? =some (.i .i64 (f:Int)):=by
    subst Ao
    simp[ints,hk]
   rcases W with h|⟨h,_,_⟩|⟨g,wm,h1,h2,h3,h4⟩
   ·refine .inl ⟨(ints (cs.map Int.ofNat)).drop (k+1),fun kk=> ?_⟩
    rw[h.ia (sz:=1) (k:=k) (kk:=kk) (by rw[dR,List.length_map];omega) hk,Nat.mul_one,List.drop_eq_getElem_cons (by simpa[ints]using hk)]
    simp[ints,Ao]
   ·omega
   ·exact .inr ⟨g,wm,_,_,h1,hk,h2,Am,by rw[h3];omega⟩
  have yL:h=0∨h=1:=zZ
  rcases yL with rfl|rfl
  ·have Jr:aa U 18= .i .i64 0:=sP
   have Y: ¬(H:Int)<0:=zZ
   rw[if_pos rfl,List.append_nil]at LU
   rw[if_neg zz,if_pos rfl]
   rw[ed,List.length_append]at hb
   rw[hwt]
   cases hi:ch f
   ·rw[hi]at I
    generalize cZ bB=X at*
    rcases K with⟨q2,K⟩|⟨g9,wm9,n9,cc9,rfl,hk9,o48,hcc,hcl⟩
    ·simp(maxDischargeDepth:=6) only[qA,seval,gd,bB,sX,r,h4,nq,mA,Jr,I,K]
     exact⟨LU,O⟩
    ·simp(maxDischargeDepth:=6) only[qA,seval,gd,bB,sX,r,h4,nq,mA,Jr,I,hk9,o48,hcc]
     exact⟨LU,O⟩
   ·rw[hi]at I
    rw[hi,if_pos rfl]at hb
    have Z:=ht false H zP (aa U 2) out zZ
    generalize cZ bB=X at*
    rcases K with⟨q2,K⟩|⟨g9,wm9,n9,cc9,rfl,hk9,o48,hcc,hcl⟩
    ·skip
     simp(maxDischargeDepth:=6) only[qA,seval,bB,sX,r,h4,h6,nq,mA,Jr,I,Y,K]
     generalize hD:DC pE 111 X _=D
     obtain⟨f2,l2,s2,rfl,⟨R,k2⟩,e2⟩:=Yh hD (Z _ _ _ W yW (by simp only[qA,seval,r,h3]) (by simp only[qA,seval,r,h4]) (by simp only[qA,seval,r,h5]) (by simp only[qA,seval,r,h6]) (by simp only[qA,seval,r,h7]) (by simp only[qA,seval,r,h8]) (by simp only[qA,seval,r,nq]) (by simp only[qA,seval,r,mA]) (by simp only[qA,seval,Jr]) p7 p8 LU)
     have g2:=(alE _ _ _ _ _ _ e2).trans (show _=_ by simp only[qA,seval,Jr];rfl)
     simp(maxDischargeDepth:=6) only[qA,seval,gd,g2]
     exact⟨by simpa only[List.append_assoc]using R,fun i i1 i2 i3=>(k2 i i1 i2 i3).trans (O i i1 i2 i3)⟩
    ·skip
     simp(maxDischargeDepth:=6) only[qA,seval,bB,sX,r,h4,h6,nq,mA,Jr,I,Y,hk9,o48,hcc]
     generalize hD:DC pE 111 X _=D
     obtain⟨f2,l2,s2,rfl,⟨R,k2⟩,e2⟩:=Yh hD (Z _ _ _ W yW (by simp only[qA,seval,r,h3]) (by simp only[qA,seval,r,h4]) (by simp only[qA,seval,r,h5]) (by simp only[qA,seval,r,h6]) (by simp only[qA,seval,r,h7]) (by simp only[qA,seval,r,h8]) (by simp only[qA,seval,r,nq]) (by simp only[qA,seval,r,mA]) (by simp only[qA,seval,Jr]) p7 p8 LU)
     have g2:=(alE _ _ _ _ _ _ e2).trans (show _=_ by simp only[qA,seval,Jr];rfl)
     simp(maxDischargeDepth:=6) only[qA,seval,gd,g2]
     exact⟨by simpa only[List.append_assoc]using R,fun i i1 i2 i3=>(k2 i i1 i2 i3).trans (O i i1 i2 i3)⟩
  ·have ad7:aa U 18= .i .i64 1:=sP
   rw[if_neg zz,if_pos rfl]at LU
   rw[if_neg zz,if_neg zz]
   rw[hwt]
   rw[ed]at hb ⊢
   generalize hAA:(if ch f=true then rL t.fl.length (jn c t.fl) (jm t c) (cD t c) (ed t.fl.length (jn c t.fl) ch (jm t c) (cD t c) n) (d++ [((f:Int),false)]) f H else [])=A at*
   rw[List.length_append]at hb
   by_cases hz:H=0
   ·subst hz
    have Ch:aa fr 6= .i .i64 0:=h6
    generalize cZ bB=X at*
    simp(maxDischargeDepth:=6) only[qA,seval,gd,bB,sX,r,Ch,ad7]
    exact⟨by simpa using LU,O⟩
   ·obtain⟨m,rfl⟩: ∃m,H=m+1:=⟨H-1,by omega⟩
    rw[if_neg hz]at hb ⊢
    rw[Nat.add_sub_cancel]at hb ⊢
    have Y: ¬((m+1:Nat):Int)<1:=zZ
    have Z:=ht true m zP (aa U 2) (out++A) (by rw[List.length_append];omega)
    generalize cZ bB=X at*
    ·skip
     simp(maxDischargeDepth:=6) only[qA,seval,bB,sX,r,h6,ad7,Y]
     generalize hD:DC pE 111 X _=D
     obtain⟨f2,l2,s2,rfl,⟨R,k2⟩,e2⟩:=Yh hD (Z _ _ _ W yW (by simp only[qA,seval,r,h3]) (by simp only[qA,seval,r,h4]) (by simp only[qA,seval,r,h5]) (by simp only[qA,seval,r,h6]) (by simp only[qA,seval,r,h7]) (by simp only[qA,seval,r,h8]) (by simp only[qA,seval,r,nq]) (by simp only[qA,seval,r,mA]) (by simp only[qA,seval,ad7]) p7 p8 LU)
     have g2:=(alE _ _ _ _ _ _ e2).trans (show _=_ by simp only[qA,seval,ad7];rfl)
     simp(maxDischargeDepth:=6) only[qA,seval,gd,g2]
     exact⟨by simpa only[List.append_assoc]using R,fun i i1 i2 i3=>(k2 i i1 i2 i3).trans (O i i1 i2 i3)⟩
 ·rintro U V s' r ⟨sP,LU,O⟩
  have h2': ¬((2:Nat):Int)<2:=zz
  simp only[qA,seval,gd,bB,sP]
  exact⟨by simpa using LU,O⟩
omit hT hC hA hL hK hN hm hn iA in
theorem FD.lenI{lh:aE ah}{cv:T}{cs:List Nat}(h:FD lh cv cs):lenI cv=some (.i .i64 (cs.length:Int)):=by
 rcases h with h|h
 ·exact h.lenI
 ·exact h.lenI
theorem alG(n:Nat)(IH:ExP t c zT aT fT a7 a8 a9 aw aA az mT nT ch n)(d:List (Int×Bool))(X:T)(Kh:DtV d X)(hd:d= []∨fx c t.fl d=0)(RX:d.length+(n+1)=6)(cs:List Nat)(U:cs=pI t.fl.length (jn c t.fl) d)(cv:T)(H:Nat)(Y:H≤6)(out:List Lg)(hb:out.length+(cs.flatMap fun f=>ed t.fl.length (jn c t.fl) ch (jm t c) (cD t c) (n+1) d f H).length≤1000000000)
  (fr:Fr) (lh:aE ah) (s:List ah) (hc:FD lh cv cs) (h3:aa fr 3=X) (h4:aa fr 4=mT) (h5:aa fr 5=nT) (h6:aa fr 6= .i .i64 (H:Int)) (h7:aa fr 7= .ptr .L 7 1 0) (h8:aa fr 8= .ptr .L 8 1 0) (Z:aa fr 15=cv) (mA:aa fr 17= .i .i64 0) (o7:ab lh 7=⟨1,.cells [zT,aT,fT] 0 true⟩) (o8:ab lh 8=⟨1,.cells (aV c a7 a8 a9 aw aA az) 0 true⟩) (hE:Es s (aa fr 2) out):
  Lp pE 111 sj fr lh s (.ext 2) fun K O V=>Es V (aa K 2) (out++cs.flatMap fun f=>ed t.fl.length (jn c t.fl) ch (jm t c) (cD t c) (n+1) d f H):=by
 have hcl:cs.length≤1000:=by rw[U];exact Nat.le_trans (Yk _ _ _) hN
 refine cm yX (fun k K O V=>aa K 17= .i .i64 (k:Int)∧Es V (aa K 2) (out++(cs.take k).flatMap fun f=>ed t.fl.length (jn c t.fl) ch (jm t c) (cD t c) (n+1) d f H)∧ ∀i,i≠77→i≠86→i≠20→ab O i=ab lh i) cs.length ⟨mA,by simpa using hE,fun _ _ _ _=>rfl⟩ ?_ ?_
 ·rintro k K O V hk r ⟨LK,LU,R⟩
  have hk':(k:Int)<cs.length:=zZ
  have hw:=aG (k:=k) zZ
  have p7:=(R 7 zz zz zz).trans o7
  have p8:=(R 8 zz zz zz).trans o8
  have I:FD O cv cs:=hc.imp id fun h=>h.congr (R 48 zz zz zz)
  have eQ:=I.lenI
  have xS:(cs.take (k+1)).flatMap (fun f=>ed t.fl.length (jn c t.fl) ch (jm t c) (cD t c) (n+1) d f H)=(cs.take k).flatMap (fun f=>ed t.fl.length (jn c t.fl) ch (jm t c) (cD t c) (n+1) d f H)++ed t.fl.length (jn c t.fl) ch (jm t c) (cD t c) (n+1) d cs[k] H:=by
   rw[List.take_succ_eq_append_getElem hk,List.flatMap_append]
   simp
  have hle:(out++(cs.take k).flatMap fun f=>ed t.fl.length (jn c t.fl) ch (jm t c) (cD t c) (n+1) d f H).length+(ed t.fl.length (jn c t.fl) ch (jm t c) (cD t c) (n+1) d cs[k] H).length≤1000000000:=by
   have h1:(cs.flatMap fun f=>ed t.fl.length (jn c t.fl) ch (jm t c) (cD t c) (n+1) d f H).length=((cs.take (k+1)).flatMap fun f=>ed t.fl.length (jn c t.fl) ch (jm t c) (cD t c) (n+1) d f H).length+((cs.drop (k+1)).flatMap fun f=>ed t.fl.length (jn c t.fl) ch (jm t c) (cD t c) (n+1) d f H).length:=by
    rw[←List.length_append,←List.flatMap_append,List.take_append_drop]
   rw[xS,List.length_append]at h1
   rw[List.length_append]
   omega
  have W:=axs t c zT aT fT a7 a8 a9 aw aA az hT hC hA hL hK hN mT nT hm hn ch iA n IH d X Kh hd RX cs[k] (by rw[←U];exact List.getElem_mem hk) cs k hk rfl cv H Y _ hle
  rw[List.append_assoc,←xS]at W
  simp(maxDischargeDepth:=6) only[qA,seval,sj,r,Z,LK,eQ,hk']
  generalize hD:DC pE 111 (.loop bB) _=D
  obtain⟨f2,l2,s2,rfl,⟨hV2,k2⟩,fY⟩:=sa GS hD (W _ _ _ I (by simp only[qA,seval,r,h3]) (by simp only[qA,seval,r,h4]) (by simp only[qA,seval,r,h5]) (by simp only[qA,seval,r,h6]) (by simp only[qA,seval,r,h7]) (by simp only[qA,seval,r,h8]) (by simp only[qA,seval,r,Z]) (by simp only[qA,seval,LK]) yW p7 p8 (by simp only[qA,seval];exact LU))
  have g2:aa f2 17= .i .i64 (k:Int):=by rw[fY 17 zz];simp only[qA,seval,LK]
  simp(maxDischargeDepth:=6) only[qA,seval,gd,g2,hw]
  exact⟨hV2,fun i i1 i2 i3=>(k2 i i1 i2 i3).trans (R i i1 i2 i3)⟩
 ·rintro K O V r ⟨LK,LU,R⟩
  have I:FD O cv cs:=hc.imp id fun h=>h.congr (R 48 zz zz zz)
  have eQ:=I.lenI
  rw[List.take_length]at LU
  simp only[qA,seval,gd,sj,r,Z,LK,eQ,Int.lt_irrefl]
  exact LU
omit hT hC hA hL hK hm hn iA in
theorem alH(M6:lenI mT=some (.i .i64 (t.fl.length:Int)))(fr:Fr)(lh:aE ah)(s:List ah)(h4:aa fr 4=mT)(nq:aa fr 15= .nilsl)(yi:aa fr 16= .i .i64 0):
  Lp pE 111 vS fr lh s (.ext 0) fun D r O=>O=s∧bh r (aa D 15) 48 1 (List.range t.fl.length).length (ints ((List.range t.fl.length).map Int.ofNat))∧ ∀i,i≠48→ab r i=ab lh i:=by
 refine cm GU (fun k D r O=>aa D 16= .i .i64 (k:Int)∧O=s∧bh r (aa D 15) 48 1 k (ints ((List.range k).map Int.ofNat))∧ ∀i,i≠48→ab r i=ab lh i) t.fl.length ⟨yi,rfl,by rw[nq];exact bh.nil,fun _ _=>rfl⟩ ?_ ?_
 ·rintro k D r _ hk R ⟨U,rfl,I,V⟩
  have W:(k:Int)<t.fl.length:=zZ
  have hw:=aG (k:=k) zZ
  have X:=fun(aU:aE ah) (aX:List ah) (e:ab aU 48=ab r 48)=>dV (sh:=aX) (I.congr e) [.i .i64 (k:Int)] rfl (bytes:=8) (by unfold roomy;omega) true
  have Y:=I.notS
  obtain⟨v15,K⟩: ∃v,aa D 15=v:=⟨_,rfl⟩
  rw[K]at I X Y
  have xS:ints ((List.range (k+1)).map Int.ofNat)=ints ((List.range k).map Int.ofNat)++ [.i .i64 (k:Int)]:=by rw[List.range_succ];simp[ints]
  rw[xS]
  simp(maxDischargeDepth:=6) only[qA,seval,gd,vS,R,h4,U,M6,W,hw,K,X,Y,repl]
  exact fun j Z=>((X r _ rfl).2.2 j Z).trans (V j Z)
 ·rintro D r _ R ⟨U,rfl,I,V⟩
  simp only[qA,seval,gd,vS,R,h4,U,M6,Int.lt_irrefl]
  exact⟨by rw[List.length_range];exact I,V⟩
include M6 iQ
theorem Yl: ∀n,ExP t c zT aT fT a7 a8 a9 aw aA az mT nT ch n
 |0=>by
  intro d Z H s I out RX Kh hd hH R hb
  have hz:=Dt t c zT aT fT a7 a8 a9 aw aA az hT hC
  have eQ:lenI Z=some (.i .i64 6):=by
   rcases Kh with⟨rfl,rfl⟩|⟨_,rfl⟩
   ·simp at RX
   ·have:d.length=6:=zZ
    rw[this];rfl
  have V:((pI t.fl.length (jn c t.fl) d).flatMap fun f=>ed t.fl.length (jn c t.fl) ch (jm t c) (cD t c) 0 d f H)= []:=by
   simp[ed]
  have RJ: ∀lh,fzV lh s true I=some (I,[]):=fun lh=>by
   rcases R with⟨rfl,_,_⟩|⟨g2,cs,rfl,_,_⟩ <;> rfl
  rw[V,List.append_nil]
  unfold aV at*
  rw[av Py (by simp[c30])]
  simp(maxDischargeDepth:=6) only[qA,seval,c30,eQ,RJ]
  exact⟨_,_,rfl,R⟩
 |n+1=>by
  have IH:=Yl n
  intro d Z H s I out RX Kh hd hH R hb
  have hz:=Dt t c zT aT fT a7 a8 a9 aw aA az hT hC
  have QL:=fun cs W cv=>alG t c zT aT fT a7 a8 a9 aw aA az hT hC hA hL hK hN mT nT hm hn ch iA n IH d Z Kh hd RX cs W cv H hH out (by rw[W];exact hb)
  have RJ: ∀lh s I out,Es s I out→fzV lh s true I=some (I,[]):=fun lh s I out R=>by
   rcases R with⟨rfl,_,_⟩|⟨g2,cs,rfl,_,_⟩ <;> rfl
  generalize X:pI t.fl.length (jn c t.fl) d=can at*
  rcases Kh with⟨rfl,rfl⟩|⟨h0,rfl⟩
  ·have hL3:=fun fr lh s=>alH t hN mT M6 fr lh s
   unfold aV at*
   rw[av Py (by simp[c30])]
   simp(maxDischargeDepth:=6) only[qA,seval,c30]
   generalize U:DC pE 111 (.loop vS) _=D
   obtain⟨K,l3,s3,rfl,⟨rfl,hO,k3⟩,O⟩:=sa GU U (hL3 _ _ _ yW yW yW)
   have g2:aa K 2=I:=by rw[O 2 zz];simp only[qA,seval]
   have g3:aa K 3= .nilsl:=by rw[O 3 zz];simp only[qA,seval]
   have g4:aa K 4=mT:=by rw[O 4 zz];simp only[qA,seval]
   have g5:aa K 5=nT:=by rw[O 5 zz];simp only[qA,seval]
   have g6:aa K 6= .i .i64 (H:Int):=by rw[O 6 zz];simp only[qA,seval]
   have g7:aa K 7= .ptr .L 7 1 0:=by rw[O 7 zz];simp only[qA,seval]
   have g8:aa K 8= .ptr .L 8 1 0:=by rw[O 8 zz];simp only[qA,seval]
   have q7:ab l3 7=⟨1,.cells [zT,aT,fT] 0 true⟩:=by rw[k3 7 zz];simp only[qA,seval]
   have q8:ab l3 8=⟨1,.cells [.i .i64 c.rp,.i .i64 c.rl,.i .i64 c.cn,.i .i64 c.st,.i .i64 c.ly,.i .i64 c.nf,.i .i64 c.nt,a7,a8,a9,aw,aA,az,.i .i64 c.gu] 0 true⟩:=by rw[k3 8 zz];simp only[qA,seval]
   have qR:can=List.range t.fl.length:=by rw[←X];rfl
   clear O U
   simp(maxDischargeDepth:=6) only[qA,seval]
   generalize U:DC pE 111 (.loop sj) _=D
   obtain⟨f4,l4,s4,rfl,r,pr4⟩:=sa yX U (QL can rfl (aa K 15) _ _ _ (.inr (by rw[qR];exact hO)) (by simp only[qA,seval,g3]) (by simp only[qA,seval,g4]) (by simp only[qA,seval,g5]) (by simp only[qA,seval,g6]) (by simp only[qA,seval,g7]) (by simp only[qA,seval,g8]) yW yW q7 q8 (by simp only[qA,seval,g2];exact R))
   have Ym:=fun lh=>RJ lh _ _ _ r
   obtain⟨v4,e4⟩: ∃v,aa f4 2=v:=⟨_,rfl⟩
   rw[e4]at r Ym
   simp(maxDischargeDepth:=6) only[qA,seval,e4,Ym]
   exact⟨_,_,rfl,r⟩
  ·obtain⟨e,k,rfl⟩: ∃e k,d=e++ [k]:=⟨d.dropLast,d.getLast h0,(List.dropLast_concat_getLast h0).symm⟩
   have aDd:=hd.resolve_left h0
   obtain⟨h1,h2,h3,h4⟩:=kU aDd
   obtain⟨f,hf,Ao⟩:=mN (h3 k zP)
   have Y:(e++ [k]).length=e.length+1:=by rw[List.length_append];rfl
   have ZZ:can=jN t.fl.length (jn c t.fl) f:=by rw[←X];unfold pI;rw[List.getLast?_append];simp[Ao]
   obtain⟨q,hq⟩:=iQ f hf
   have hcl:=mz (e++ [k])
   have hdr:(lP (e++ [k])).drop (e.length*2)= [.i .i64 (f:Int),.b k.2]:=by
    rw[NO,List.drop_append,mz,Nat.sub_self,List.drop_of_length_le (by rw[mz];omega),List.nil_append,List.drop_zero,←Ao]
    rfl
   have hia: ∀kk,iaV (.sl (lP (e++ [k])) (e.length+1) false) (.i kk (e.length:Int)) 2=some (.vp [.i .i64 (f:Int),.b k.2]):=fun kk=>by
    rw[cT,if_pos ⟨by omega,by simp,by rw[hcl,Y];simp⟩,Int.toNat_natCast,hdr]
   have hw:wr .i64 (((e.length+1:Nat):Int)-1)=(e.length:Int):=by rw[bI zZ];omega
   have eQ:lenI (T.sl (lP (e++ [k])) (e.length+1) false)=some (.i .i64 ((e.length+1:Nat):Int)):=rfl
   have h6: ¬((e.length+1:Nat):Int)=6:=zZ
   have XW:(0:Int)<((e.length+1:Nat):Int):=zZ
   rw[Y]at*
   have hsl:IsSl (pO can) can.length (ints (can.map Int.ofNat)):=by
    unfold pO
    split
    ·rename_i h;rw[h];exact .inl ⟨rfl,rfl,rfl⟩
    ·exact .inr ⟨_,rfl⟩
   rw[←ZZ]at hq
   unfold aV at*
   rw[av Py (by simp[c30])]
   simp(maxDischargeDepth:=6) only[qA,seval,c30,eQ,h6,XW,hw,hia,hq]
   generalize U:DC pE 111 (.loop sj) _=D
   obtain⟨f4,l4,s4,rfl,r,pr4⟩:=sa yX U (QL can rfl (pO can) _ _ _ (.inl hsl) (by simp only[qA,seval];rw[List.length_append];rfl) yW yW yW yW yW yW yW yW yW (by simp only[qA,seval];exact R))
   have Ym:=fun lh=>RJ lh _ _ _ r
   obtain⟨v4,e4⟩: ∃v,aa f4 2=v:=⟨_,rfl⟩
   rw[e4]at r Ym
   simp(maxDischargeDepth:=6) only[qA,seval,e4,Ym]
   exact⟨_,_,rfl,r⟩
end
def vBd:Nat→Nat
 |0=>0
 |n+1=>2*(1+12*vBd n)
theorem FE{α β:Type}(f:α→List β)(B:Nat): ∀(l:List α),(∀x∈l,(f x).length≤B)→(l.flatMap f).length≤l.length*B
 | [],_=>by simp
 |x::l,h=>by
  have h1:=h x List.mem_cons_self
  have h2:=FE f B l fun y r=>h y (List.mem_cons_of_mem _ r)
  rw[List.flatMap_cons,List.length_append,List.length_cons,Nat.succ_mul]
  omega
section
variable(N:Nat)(J:Nat→Nat→Bool)(ch:Nat→Bool)(ok:List (Int×Bool)→Bool)(lg:List (Int×Bool)→Lg)(hN:N≤12)
include hN
theorem one_le(r:List (Int×Bool)→Nat→Nat→List Lg)(B:Nat)(D: ∀x g h,(r x g h).length≤B)(x:List (Int×Bool))(f h:Nat):(rL N J ok lg r x f h).length≤1+12*B:=by
 unfold rL
 rw[List.length_append]
 have h1:(if ok x=true then [lg x]else []).length≤1:=by split <;> simp
 have h2:=FE (fun g=>r x g h) B (jN N J f) fun g _=>D x g h
 have h3:(jN N J f).length≤12:=Nat.le_trans (Fu _ _) hN
 have h4:(jN N J f).length*B≤12*B:=Nat.mul_le_mul_right B h3
 omega
theorem Yn: ∀(n:Nat) (d:List (Int×Bool)) (f h:Nat),(ed N J ch ok lg n d f h).length≤vBd n
 |0,_,_,_=>Nat.zero_le _
 |n+1,d,f,h=>by
  have ih:=fun x g h=>Yn n x g h
  have h1:=fun x h=>one_le N J ok lg hN _ _ ih x f h
  rw[ed,List.length_append,vBd]
  have a1:(if ch f=true then rL N J ok lg (ed N J ch ok lg n) (d++ [((f:Int),false)]) f h else []).length≤1+12*vBd n:=by
   split
   ·exact h1 _ _
   ·simp
  have a2:(if h=0 then []else rL N J ok lg (ed N J ch ok lg n) (d++ [((f:Int),true)]) f (h-1)).length≤1+12*vBd n:=by
   split
   ·simp
   ·exact h1 _ _
  omega
theorem Yo(H:Nat):(jP N J ch ok lg H).length≤1000000000:=by
 have h:=FE (fun f=>ed N J ch ok lg 6 [] f H) (vBd 6) (List.range N) fun f _=>Yn N J ch ok lg hN 6 [] f H
 rw[List.length_range]at h
 have h2:N*vBd 6≤12*vBd 6:=Nat.mul_le_mul_right _ hN
 have h3:12*vBd 6≤1000000000:=zz
 exact Nat.le_trans h (Nat.le_trans h2 h3)
end
def LV(out:List Lg)(v:T):Prop:= ∃cs,IsSl v out.length cs∧aC LgQ out cs
theorem ad9(out:List Lg): ∃v,LV out v:=by
 obtain⟨cs,h⟩: ∃cs,aC LgQ out cs:=by
  induction out with
  |nil=>exact⟨[],rfl⟩
  |cons g out ih=>
   obtain⟨cs,h⟩:=ih
   exact⟨_,_,_,rfl,⟨.sl (lP g.du) g.du.length false,rfl,.inr ⟨_,rfl⟩⟩,h⟩
 exact⟨.sl cs out.length false,cs,.inr ⟨_,rfl⟩,h⟩
theorem fM{v:T}(h:froz1 v=true):kept1 v=true:=by cases v <;> simp_all[froz1,kept1]
theorem N6{v:T}(h:froz1 v=true):kept v=true:=by cases v <;> simp_all[froz1,kept,kept1]
section
variable(t:Tt)(c:Ct)(zT aT fT a7 a8 a9 aw aA az:T)(hT:ky t zT aT fT)(hC:kP c a7 a8 a9 aw aA az)(hA:Ds c)(hL: ∀f∈t.fl,f.nu.length≤fX)(hN:t.fl.length≤12)
include hT hC hA hN
include hL
def alI(t:Tt)(c:Ct)(ops:List Int)(H:Nat):Prop:=20000<Q8 c t.fl ops H∨2000<(jP t.fl.length (jn c t.fl) (iw ops) (jm t c) (cD t c) H).length
theorem Yp(ops:List Int)(X:T)(Y:IsSl X ops.length (ints ops))(V:ops.length≤1000)(H:Int): ∃v s,ae pE 8 [.agg [zT,aT,fT],.agg (aV c a7 a8 a9 aw aA az),X,.i .i64 H] []=some (if FC t c ops H=0 then(if 20000<Q8 c t.fl ops H.toNat∨2000<(jP t.fl.length (jn c t.fl) (iw ops) (jm t c) (cD t c) H.toNat).length then .tup [.nilsl,.i .i64 10]else .tup [v,.i .i64 0])else .tup [.nilsl,.i .i64 (FC t c ops H)],s)∧LV (jP t.fl.length (jn c t.fl) (iw ops) (jm t c) (cD t c) H.toNat) v:=by
 have R:=Dt t c zT aT fT a7 a8 a9 aw aA az hT hC
 have QR:=Y.froz
 have aC7:=Y.froz1
 obtain⟨s0,U⟩:=ad3 t c zT aT fT a7 a8 a9 aw aA az hT hC hA hL zZ ops X Y V H
 by_cases r:FC t c ops H=0
 ·obtain⟨h0,h2,h3⟩:eb t c=0∧BJ t.fl.length none ops=0∧ ¬(H<0∨6<H):=by
   unfold FC at r
   by_cases h0:eb t c=0
   ·rw[if_pos h0]at r
    by_cases h2:BJ t.fl.length none ops=0
    ·rw[if_pos h2]at r
     refine⟨h0,h2,fun h3=> ?_⟩
     rw[if_pos h3]at r;cases r
    ·rw[if_neg h2]at r;exact absurd r h2
   ·rw[if_neg h0]at r;exact absurd r h0
  obtain⟨m,rfl⟩: ∃m:Nat,H=(m:Int):=⟨H.toNat,by omega⟩
  have e2:=Ye t c zT aT fT a7 a8 a9 aw aA az hT hC zZ ops X Y V
  have e3:=DF t c zT aT fT a7 a8 a9 aw aA az hT hC zZ
  rw[if_pos h2]at e2
  rw[r,if_pos rfl,Int.toNat_natCast]at U
  simp only[r,if_true,Int.toNat_natCast]
  have Z:froz1 (bG t.fl.length (((List.range t.fl.length).map (jN t.fl.length (jn c t.fl))).map pO))=true:=by unfold bG;split <;> rfl
  have hnF:froz (bG t.fl.length (((List.range t.fl.length).map (jN t.fl.length (jn c t.fl))).map pO))=true:=by unfold bG;split <;> rfl
  have iQ: ∀f,f<t.fl.length→ ∃q,∀kk,iaV (bG t.fl.length (((List.range t.fl.length).map (jN t.fl.length (jn c t.fl))).map pO)) (.i kk (f:Int)) 1=some (.vp (pO (jN t.fl.length (jn c t.fl) f)::q)):=fun f hf=>by
   have V:(((List.range t.fl.length).map (jN t.fl.length (jn c t.fl))).map pO).length=t.fl.length:=zP
   unfold bG
   rw[if_neg zZ]
   refine⟨(((List.range t.fl.length).map (jN t.fl.length (jn c t.fl))).map pO).drop (f+1),fun kk=> ?_⟩
   rw[cT,if_pos ⟨by omega,by simpa using hf,by rw[V];simp;omega⟩,Int.toNat_natCast,Nat.mul_one,List.drop_eq_getElem_cons (by rw[V];exact hf)]
   simp
  have hmf:froz1 (.sl (wX (inB t.fl.length ops)) t.fl.length false)=true:=rfl
  have hmF:froz (.sl (wX (inB t.fl.length ops)) t.fl.length false)=true:=rfl
  obtain⟨v,s',e4,hV⟩:=Yl t c zT aT fT a7 a8 a9 aw aA az hT hC hA hL h0 zZ (.sl (wX (inB t.fl.length ops)) t.fl.length false) (bG t.fl.length (((List.range t.fl.length).map (jN t.fl.length (jn c t.fl))).map pO)) hmF hnF (iw ops) (X9 t.fl.length ops) rfl iQ 6 [] .nilsl m [] .nilsl [] rfl (.inl ⟨rfl,rfl⟩) (.inl rfl) zZ (.inl ⟨rfl,rfl,rfl⟩) (by
   have:=Yo t.fl.length (jn c t.fl) (iw ops) (jm t c) (cD t c) hN m
   unfold jP at this
   simpa[pI]using this)
  have ZZ:(pI t.fl.length (jn c t.fl) []).flatMap (fun f=>ed t.fl.length (jn c t.fl) (iw ops) (jm t c) (cD t c) 6 [] f m)=jP t.fl.length (jn c t.fl) (iw ops) (jm t c) (cD t c) m:=rfl
  rw[List.nil_append,ZZ]at hV
  clear ZZ
  generalize hmT:T.sl (wX (inB t.fl.length ops)) t.fl.length false=mT at*
  generalize bG t.fl.length (((List.range t.fl.length).map (jN t.fl.length (jn c t.fl))).map pO)=nT at*
  unfold aV at*
  have I:(kept1 zT=true∧kept1 aT=true∧kept1 fT=true∧kept1 a7=true∧kept1 a8=true∧kept1 a9=true∧kept1 aw=true∧kept1 aA=true∧kept1 az=true):=by
   obtain⟨⟨z1,z2,z3,z4,z5,z6,z7,z8,z9⟩,_⟩:=R
   exact⟨fM z1,fM z2,fM z3,fM z4,fM z5,fM z6,fM z7,fM z8,fM z9⟩
  have W0:kept mT=true:=N6 hmf
  have iY:kept nT=true:=N6 Z
  rcases hV with⟨rfl,h5,rfl⟩|⟨g,cs,rfl,rfl,b1⟩
  ·refine⟨.nilsl, ?_⟩
   have K:LV (jP t.fl.length (jn c t.fl) (iw ops) (jm t c) (cD t c) m) .nilsl:=⟨[],by rw[h5];exact .inl ⟨rfl,rfl,rfl⟩,by rw[h5];rfl⟩
   have D: ¬2000<(jP t.fl.length (jn c t.fl) (iw ops) (jm t c) (cD t c) m).length:=by rw[h5];simp
   rw[av fn8 (by simp[c8])]
   by_cases W:20000<Q8 c t.fl ops m
   all_goals
    simp(maxDischargeDepth:=6) only[qA,bj,dn,seval,aH,c8,R,I,U,e2,e3,e4,TB,Kw,aaB,aiL,aiO,aiM,QR,W0,iY,W,D,or_self,true_or]
    exact⟨_,rfl,K⟩
  ·refine⟨.sl cs (jP t.fl.length (jn c t.fl) (iw ops) (jm t c) (cD t c) m).length false, ?_⟩
   have K:LV (jP t.fl.length (jn c t.fl) (iw ops) (jm t c) (cD t c) m) (.sl cs (jP t.fl.length (jn c t.fl) (iw ops) (jm t c) (cD t c) m).length false):=⟨cs,.inr ⟨_,rfl⟩,b1⟩
   have hcl:=b1.len LgQ.len
   have eQ:lenI (T.isl .S 0 g 0 (jP t.fl.length (jn c t.fl) (iw ops) (jm t c) (cD t c) m).length 7)=some (.i .i64 ((jP t.fl.length (jn c t.fl) (iw ops) (jm t c) (cD t c) m).length:Int)):=rfl
   have hzS:=fun q lh=>Bh (m:=q) (lh:=lh) (s:= [(⟨g,.cells cs 0 false⟩:ah)]) (k:=0) rfl hcl
   rw[av fn8 (by simp[c8])]
   by_cases W:20000<Q8 c t.fl ops m
   ·simp(maxDischargeDepth:=6) only[qA,seval,c8,R,U,TB,QR,W,true_or]
    exact⟨_,rfl,K⟩
   ·by_cases D:2000<(jP t.fl.length (jn c t.fl) (iw ops) (jm t c) (cD t c) m).length
    ·have O:(2000:Int)<((jP t.fl.length (jn c t.fl) (iw ops) (jm t c) (cD t c) m).length:Int):=zZ
     simp(maxDischargeDepth:=6) only[qA,bj,dn,seval,aH,c8,R,I,U,e2,e3,e4,TB,Kw,aaB,aiL,aiO,aiM,QR,W0,iY,W,D,O,eQ,or_true]
     exact⟨_,rfl,K⟩
    ·have O: ¬(2000:Int)<((jP t.fl.length (jn c t.fl) (iw ops) (jm t c) (cD t c) m).length:Int):=zZ
     simp(maxDischargeDepth:=6) only[qA,bj,dn,seval,aH,c8,R,I,U,e2,e3,e4,TB,Kw,aaB,aiL,aiO,aiM,QR,W0,iY,W,D,O,eQ,hzS,or_self]
     exact⟨_,rfl,K⟩
 ·obtain⟨v,K⟩:=ad9 (jP t.fl.length (jn c t.fl) (iw ops) (jm t c) (cD t c) H.toNat)
  refine⟨v, ?_⟩
  rw[if_neg r]
  unfold aV at*
  rw[av fn8 (by simp[c8])]
  simp(maxDischargeDepth:=6) only[qA,seval,c8,R,U,TB,QR,r]
  exact⟨_,rfl,K⟩
end
end Go.Proofs.YtnkgnjecmfkcfaaGreat
