/- Walks, plain laws (14). Conditions: the theorems' own. -/
import Derived.Test.YtnkgnjecmfkcfaaGreatM13
set_option maxRecDepth 100000
set_option linter.all false
set_option maxHeartbeats 16000000
namespace Go.Proofs.YtnkgnjecmfkcfaaGreat
open Go Go.Ev
def Uk(H:Nat)(w:Nat→Int):T:= .sl (fb (H+1) w) (H+1) false
def abB(N H:Nat)(w:Nat→Nat→Int):T:= .sl ((List.range N).map fun i=>Uk H (w i)) N false
def HD(r:List Nat)(f:Nat→Nat):Nat:=(r.map f).sum
theorem ahu(N:Nat)(J:Nat→Bool)(f:Nat→Nat):HD ((List.range N).filter J) f=Sm N fun j=>uw (J j)*f j:=by
 induction N with
 |zero=>rfl
 |succ n ih=>
  rw[HA,Sm,←ih]
  cases h:J n
  ·simp[uw]
  ·simp[uw,HD]
def apH(N H:Nat)(w:Nat→Nat→Int)(i:Nat)(hi:i<N): ∃q,∀kk,iaV (abB N H w) (.i kk (i:Int)) 1=some (.vp (Uk H (w i)::q)):=by
 refine⟨((List.range N).map fun i=>Uk H (w i)).drop (i+1),fun kk=> ?_⟩
 unfold abB
 rw[cX,if_pos ⟨by omega,by simpa using hi,by simp;omega⟩,Int.toNat_natCast,Nat.mul_one,List.drop_eq_getElem_cons (by simpa using hi)]
 simp
def ahv(H:Nat)(w:Nat→Int)(h:Nat)(r:h≤H): ∃q,∀kk,iaV (Uk H w) (.i kk (h:Int)) 1=some (.vp (qi (w h)::q)):=by
 refine⟨(fb (H+1) w).drop (h+1),fun kk=> ?_⟩
 unfold Uk
 rw[cX,if_pos ⟨by omega,by simp;omega,by rw[oL];simp;omega⟩,Int.toNat_natCast,Nat.mul_one,List.drop_eq_getElem_cons (by rw[oL];omega)]
 simp[fb]
def aCp(N H:Nat)(w:Nat→Nat→Nat)(r:List Nat)(hr: ∀j∈r,j<N)(Y:r.length≤1000)(Z:T)(D:IsSl Z r.length (ints (r.map Int.ofNat)))(h:Nat)(hh:h≤H)(fr:Fr)(lh:aE ah)(sh:List ah)(h0:aa fr 0=abB N H fun i g=>iJ (w i g))(h1:aa fr 1=Z)(h3:aa fr 3= qi (h:Int))(h9:aa fr 9= qi 0)(U:aa fr 10= qi 0):
  Lp pE 34 xP fr lh sh (.ext 0) fun f l s=>aa f 9= qi (iJ (HD r fun j=>w j h))∧l=lh∧s=sh:=by
 refine bK Jg (fun k f l s=>aa f 9= qi (iJ (HD (r.take k) fun j=>w j h))∧aa f 10= qi (k:Int)∧l=lh∧s=sh) r.length ⟨h9,U,rfl,rfl⟩ ?_ ?_
 ·rintro k f _ _ hk V ⟨O,I,rfl,rfl⟩
  have W:(k:Int)<r.length:=zV
  have hw:=aF (k:=k) zV
  have K:=fun kk=>D.ia (sz:=1) (k:=k) (kk:=kk) (by rw[eu,List.length_map];omega) hk
  have hd:(ints (r.map Int.ofNat)).drop (k*1)= qi (r[k]:Int)::(ints (r.map Int.ofNat)).drop (k+1):=by
   rw[Nat.mul_one,List.drop_eq_getElem_cons (by simpa[ints]using hk)]
   simp[ints]
  rw[hd]at K
  have iK:HD (r.take (k+1)) (fun j=>w j h)=HD (r.take k) (fun j=>w j h)+w r[k] h:=by
   unfold HD;rw[List.take_succ_eq_append_getElem hk,List.map_append,List.sum_append];simp
  obtain⟨q1,e1⟩:=apH N H (fun i g=>iJ (w i g)) r[k] (hr _ (List.getElem_mem hk))
  obtain⟨q2,e2⟩:=ahv H (fun g=>iJ (w r[k] g)) h hh
  have X:=D.lenI
  rw[iK]
  generalize r[k]=x at*
  simp(maxDischargeDepth:=6) only[qA,seval,gd,xP,V,h0,h1,h3,O,I,W,hw,K,X,e1,e2,AS]
 ·rintro f _ _ V ⟨O,I,rfl,rfl⟩
  rw[List.take_length]at O
  have X:=D.lenI
  simp only[qA,seval,gd,xP,V,h1,O,I,X,Int.lt_irrefl]
theorem ahw(N H:Nat)(w:Nat→Nat→Nat)(r:List Nat)(hr: ∀j∈r,j<N)(K:r.length≤1000)(O:T)(U:IsSl O r.length (ints (r.map Int.ofNat)))(h:Nat)(V:h≤H)(I:Int)(hs:I≠1):ae pE 66 [abB N H fun i g=>iJ (w i g),O,qi I,qi (h:Int)] []=some (qi (iJ (HD r fun j=>w j h)),[]):=by
 rw[au Sx (by simp[c66])]
 simp(maxDischargeDepth:=6) only[qA,seval,c66,hs]
 generalize W:DC pE 34 (.loop xP) _=D
 obtain⟨Y,Z,s2,rfl,⟨X,rfl,rfl⟩,fR⟩:=qK Jg W (aCp N H w r hr K O U h V _ _ _ yk yk yk yk yk)
 simp(maxDischargeDepth:=6) only[qA,seval,X]
def abC(D I:T)(h:Nat):ae pE 66 [D,I,qi 1,qi (h:Int)] []=some (qi (iJ (Oa h)),[]):=by
 rw[au Sx (by simp[c66])]
 cases h with
 |zero=>
  have r:((0:Nat):Int)=0:=rfl
  simp(maxDischargeDepth:=6) only[qA,seval,c66,Oa,ahs,r]
 |succ h=>
  have h0: ¬((h+1:Nat):Int)=0:=zV
  simp(maxDischargeDepth:=6) only[qA,seval,c66,Oa,Lt,h0]
section
variable(t:Tt)(c:Ct)(zT aT fT a7 a8 a9 aw aA az:T)(hT:jV t zT aT fT)(hC:kR c a7 a8 a9 aw aA az)(hN:t.fl.length≤1000)
include hT hC hN
def rj1(i:Nat)(hi:i<t.fl.length)(fr:Fr)(lh:aE ah)(sh:List ah)(h2:aa fr 2= .ptr .L 2 1 0)(h3:aa fr 3= .ptr .L 3 1 0)(h6:aa fr 6= qi (i:Int))(h7:aa fr 7= .nilsl)(h8:aa fr 8= qi 0)(o2:ab lh 2=⟨1,.cells [zT,aT,fT] 0 true⟩)(o3:ab lh 3=⟨1,.cells (aO c a7 a8 a9 aw aA az) 0 true⟩):
  Lp pE 37 tJ fr lh sh (.ext 2) fun f l s=>s=sh∧aW l (aa f 7) 31 1 (kN t.fl.length (jn c t.fl) i).length (ints ((kN t.fl.length (jn c t.fl) i).map Int.ofNat))∧(∀j,j≠31→ab l j=ab lh j):=by
 have X:=hT.f
 obtain⟨fc,f1,f2⟩:=X
 have Y:=f1.lenI
 have Z:=fun k (hk:k<t.fl.length)=>KW t c zT aT fT a7 a8 a9 aw aA az hT hC (i:=(i:Int)) (j:=(k:Int)) (by unfold lQ;simpa using hi) (by unfold lQ;simpa using hk)
 have hz:=Aj t c zT aT fT a7 a8 a9 aw aA az hT hC
 unfold aO at*
 refine bK I7 (fun k f l s=>aa f 8= qi (k:Int)∧s=sh∧aW l (aa f 7) 31 1 ((List.range k).filter fun j=>jn c t.fl i j).length (ints (((List.range k).filter fun j=>jn c t.fl i j).map Int.ofNat))∧(∀j,j≠31→ab l j=ab lh j)) t.fl.length ⟨h8,rfl,by rw[h7];exact aW.nil,fun _ _=>rfl⟩ ?_ ?_
 ·rintro k f l _ hk U ⟨V,rfl,I,D⟩
  have K:(k:Int)<t.fl.length:=zV
  have hw:=aF (k:=k) zV
  have e1:=Z k hk
  rw[show nv c t.fl (i:Int) (k:Int)=jn c t.fl i k by rw[oJ c t.fl hi hk,QM hi hk]]at e1
  have W:=(D 2 zz).trans o2
  have q3:=(D 3 zz).trans o3
  have hlen:((List.range k).filter fun j=>jn c t.fl i j).length≤k:=HC (jn c t.fl i) k
  have dZ:=fun(aN:aE ah) (aR:List ah) (e:ab aN 31=ab l 31)=>de (sh:=aR) (I.congr e) [qi (k:Int)] rfl (bytes:=8) (by unfold roomy;omega) true
  have lE:=I.notS
  rw[HA]
  generalize (List.range k).filter (fun j=>jn c t.fl i j)=r at*
  generalize O:aa f 7=v7 at I dZ lE
  cases hb:jn c t.fl i k
  ·simp(maxDischargeDepth:=6) only[qA,seval,gd,tJ,U,h2,h3,h6,V,W,q3,Y,K,hw,e1,hb,am8,O,hz]
   exact⟨I,D⟩
  ·simp(maxDischargeDepth:=6) only[qA,seval,gd,tJ,U,h2,h3,h6,V,W,q3,Y,K,hw,e1,hb,am8,O,hz,dZ,lE,repl]
   obtain⟨_,k1,k2⟩:=dZ l _ rfl
   rw[show ints ((r++ [k]).map Int.ofNat)=ints (r.map Int.ofNat)++ [qi (k:Int)]by simp[ints],show(r++ [k]).length=r.length+1 by simp]
   exact⟨k1,fun j hj=>(k2 j hj).trans (D j hj)⟩
 ·rintro f l _ U ⟨V,rfl,I,D⟩
  have W:=(D 2 zz).trans o2
  simp only[qA,seval,gd,tJ,U,h2,W,V,Y,Int.lt_irrefl]
  exact⟨I,D⟩
def rj2(fr:Fr)(lh:aE ah)(sh:List ah)(h2:aa fr 2= .ptr .L 2 1 0)(h3:aa fr 3= .ptr .L 3 1 0)(h5:aa fr 5= .nilsl)(h6:aa fr 6= qi 0)(o2:ab lh 2=⟨1,.cells [zT,aT,fT] 0 true⟩)(o3:ab lh 3=⟨1,.cells (aO c a7 a8 a9 aw aA az) 0 true⟩):
  Lp pE 37 xH fr lh sh (.ext 0) fun f l s=>s=sh∧aW l (aa f 5) 35 1 t.fl.length (((List.range t.fl.length).map (kN t.fl.length (jn c t.fl))).map qL):=by
 have hf0:=hT.f
 obtain⟨fc,f1,f2⟩:=hf0
 have dL:=f1.lenI
 refine bK I8 (fun k f l s=>aa f 6= qi (k:Int)∧s=sh∧aW l (aa f 5) 35 1 k (((List.range k).map (kN t.fl.length (jn c t.fl))).map qL)∧(∀j,j≠31→j≠35→ab l j=ab lh j)) t.fl.length ⟨h6,rfl,by rw[h5];exact aW.nil,fun _ _ _=>rfl⟩ ?_ ?_
 ·rintro k f l s hk K ⟨O,rfl,hO,U⟩
  have hk':(k:Int)<t.fl.length:=zV
  have hw:=aF (k:=k) zV
  have X:=(U 2 zz zz).trans o2
  have q3:=(U 3 zz zz).trans o3
  simp(maxDischargeDepth:=6) only[qA,seval,xH,K,h2,O,X,dL,hk']
  generalize hD:DC pE 37 (.loop tJ) _=D
  obtain⟨r,l2,s2,rfl,⟨rfl,V,Od⟩,fR⟩:=qK I7 hD (rj1 t c zT aT fT a7 a8 a9 aw aA az hT hC hN k hk _ _ _ (by simp only[qA,seval,K,h2]) (by simp only[qA,seval,K,h3]) (by simp only[qA,seval,O]) yk yk X q3)
  have e6:aa r 6= qi (k:Int):=by rw[fR 6 zz];simp only[qA,seval,O]
  have e5:aa r 5=aa f 5:=by rw[fR 5 zz];simp only[qA,seval]
  have U7:=hO.congr (Od 35 zz)
  rw[←e5]at U7
  obtain⟨v7,e7⟩: ∃v,aa r 7=v:=⟨_,rfl⟩
  obtain⟨v5,I⟩: ∃v,aa r 5=v:=⟨_,rfl⟩
  rw[e7]at V
  rw[I]at U7
  have ht:qL (kN t.fl.length (jn c t.fl) k)=bj (kN t.fl.length (jn c t.fl) k).length (ints ((kN t.fl.length (jn c t.fl) k).map Int.ofNat)):=by
   unfold bj qL
   simp only[List.length_eq_zero_iff]
  have lE:=U7.notS
  have Y:=fun(v:T) (aN:aE ah) (aR:List ah) (e:ab aN 35=ab l2 35)=>de (sh:=aR) (U7.congr e) [v] rfl (bytes:=24) (by unfold roomy;omega) true
  have zX:((List.range (k+1)).map (kN t.fl.length (jn c t.fl))).map qL=((List.range k).map (kN t.fl.length (jn c t.fl))).map qL++ [qL (kN t.fl.length (jn c t.fl) k)]:=by rw[List.range_succ,List.map_append,List.map_append];rfl
  rw[zX,ht]
  have Oe: ∀j,j≠31→j≠35→ab l2 j=ab lh j:=fun j h1 h2=>(Od j h1).trans (U j h1 h2)
  rcases V with⟨h1,rfl,h3⟩|⟨g,wm,rfl,ho,hl,hp⟩
  ·simp(maxDischargeDepth:=6) only[qA,seval,gd,I,e6,e7,lE,Y,hw,repl,h1,bj]
   exact fun j Z W=>((Y .nilsl l2 _ rfl).2.2 j W).trans (Oe j Z W)
  ·have hp': ¬(kN t.fl.length (jn c t.fl) k).length=0:=zV
   have hl':(kN t.fl.length (jn c t.fl) k).length≤(ints ((kN t.fl.length (jn c t.fl) k).map Int.ofNat)).length:=zV
   have htk:(ints ((kN t.fl.length (jn c t.fl) k).map Int.ofNat)).take (kN t.fl.length (jn c t.fl) k).length=ints ((kN t.fl.length (jn c t.fl) k).map Int.ofNat):=List.take_of_length_le zV
   simp(maxDischargeDepth:=6) only[qA,seval,gd,I,e6,e7,lE,Y,hw,repl,ho,hl',htk,hp',bj]
   exact fun j Z W=>((Y _ _ _ yk).2.2 j W).trans ((bq _ _ Z).trans (Oe j Z W))
 ·rintro f l _ K ⟨O,rfl,hO,U⟩
  have X:=(U 2 zz zz).trans o2
  simp only[qA,seval,gd,xH,K,h2,X,O,dL,Int.lt_irrefl]
  exact hO
def FN:ae pE 31 [.agg [zT,aT,fT],.agg (aO c a7 a8 a9 aw aA az)] []=some (bj t.fl.length (((List.range t.fl.length).map (kN t.fl.length (jn c t.fl))).map qL),[]):=by
 have V:=Aj t c zT aT fT a7 a8 a9 aw aA az hT hC
 have hL:=fun fr lh sh h2 h3 h5 h6 r I=>rj2 t c zT aT fT a7 a8 a9 aw aA az hT hC hN fr lh sh h2 h3 h5 h6 r I
 unfold aO at*
 rw[au amT (by simp[c31])]
 simp(maxDischargeDepth:=6) only[qA,seval,c31]
 generalize K:DC pE 37 (.loop xH) _=D
 obtain⟨O,W,s2,rfl,⟨rfl,U⟩,X⟩:=qK I8 K (hL _ _ _ yk yk yk yk yk yk)
 have Ml:=fun sh=>U.fzV (keep:=false) (sh:=sh)
 obtain⟨Y,e5⟩: ∃v,aa O 5=v:=⟨_,rfl⟩
 rw[e5]at Ml
 simp(maxDischargeDepth:=6) only[qA,wD,seval,e5,Ml]
def aIG(ops:List Int)(oT:T)(ho:IsSl oT ops.length (ints ops))(hl:ops.length≤1000)(fr:Fr)(lh:aE ah)(sh:List ah)(h1:aa fr 1=oT)(h2:aa fr 2= .ptr .L 2 1 0)(h4:aa fr 4= .nilsl)(h6:aa fr 6= .isl .L 11 1 0 t.fl.length 1)(h7:aa fr 7= qi 0)(U:ab lh 2=⟨1,.cells [zT,aT,fT] 0 true⟩)(IK:ab lh 11=⟨1,.cells (yJ (inB t.fl.length [])) 0 false⟩):
  Lp pE 54 nG fr lh sh (if DN t.fl.length none ops=0 then .ext 0 else .ret) fun f l s=>s=sh∧(DN t.fl.length none ops=0→ab l 11=⟨1,.cells (yJ (inB t.fl.length ops)) 0 false⟩)∧(DN t.fl.length none ops≠0→aa f 4= .nilsl∧aa f 5= qi (DN t.fl.length none ops)):=by
 have _:=hC
 have _:=hN
 have hf0:=hT.f
 obtain⟨fc,f1,f2⟩:=hf0
 have K:=f1.lenI
 have Z:=ho.lenI
 generalize hR:DN t.fl.length none ops=R
 refine bK I4 (fun k f l s=>aa f 7= qi (k:Int)∧aa f 4= .nilsl∧s=sh∧ab l 2=⟨1,.cells [zT,aT,fT] 0 true⟩∧ab l 11=⟨1,.cells (yJ (inB t.fl.length (ops.take k))) 0 false⟩∧R=DN t.fl.length (Ui ops k) (ops.drop k)) ops.length ⟨h7,h4,rfl,U,IK,hR.symm⟩ ?_ ?_
 ·rintro k f l _ hk V ⟨W,g4,rfl,U,IK,r⟩
  have I:(k:Int)<ops.length:=zV
  have hw:wr .i64 ((k:Int)+1)=((k+1:Nat):Int):=by rw[aZ zV];omega
  have D:=fun kk=>ho.ia (sz:=1) (k:=k) (kk:=kk) (by rw[eu];omega) hk
  simp only[Nat.mul_one]at D
  rw[lY ops k hk]at D
  rw[List.drop_eq_getElem_cons hk,Lu]at r
  rw[Uj ops k hk]
  have zX:=abb t.fl.length (ops.take k) ops[k]
  rw[←List.take_succ_eq_append_getElem hk]at zX
  have gG:=wW t.fl.length (ops.take k)
  by_cases hx:0≤ops[k]∧ops[k]<(t.fl.length:Int)
  ·obtain⟨x0,xN⟩:=hx
   have X: ¬ops[k]<0:=zV
   have Y: ¬(t.fl.length:Int)≤ops[k]:=zV
   have zX:=zX x0 xN
   rw[if_pos ⟨x0,xN⟩]at r
   have xn:ops[k].toNat<t.fl.length:=zV
   have xn2:ops[k].toNat+1≤t.fl.length:=zV
   by_cases h0':k=0
   ·subst h0'
    have hp0:Ui ops 0=none:=rfl
    rw[hp0]at r
    have yM: ∀kk,iaV oT (.i kk 0) 1=some (.vp (qi ops[0]::(ints ops).drop (0+1))):=fun kk=>D kk
    have g70:aa f 7= qi 0:=W
    have An:(0:Int)<ops.length:=I
    generalize yJ (inB t.fl.length (ops.take 0))=B at*
    generalize hB:yJ (inB t.fl.length (ops.take (0+1)))=B' at*
    simp(maxDischargeDepth:=6) only[qA,seval,gd,nG,V,h1,h2,h6,g70,g4,Z,K,An,yM,U,IK,x0,X,Y,xn,xn2,gG,zX]
    exact r
   ·rw[abA ops k hk h0']at r
    have C6:=fun kk=>ho.ia (sz:=1) (k:=k-1) (kk:=kk) (by rw[eu];omega) zV
    simp only[Nat.mul_one]at C6
    rw[lY ops (k-1) zV]at C6
    have hw2:=jw (k:=k) zV zV
    have K9:(0:Int)<(k:Int):=zV
    generalize yJ (inB t.fl.length (ops.take k))=B at*
    generalize hB:yJ (inB t.fl.length (ops.take (k+1)))=B' at*
    dsimp only at r
    by_cases O:ops[k]≤ops[k-1]
    ·rw[if_pos O]at r
     subst r
     simp(maxDischargeDepth:=6) only[qA,seval,gd,nG,V,h1,h2,W,Z,K,I,hw2,K9,D,C6,U,IK,X,Y,O]
     exact⟨False.elim,fun _=>trivial⟩
    ·rw[if_neg O]at r
     simp(maxDischargeDepth:=6) only[qA,seval,gd,nG,V,h1,h2,h6,W,g4,Z,K,I,hw,hw2,K9,D,C6,U,IK,x0,X,Y,xn,xn2,gG,zX,O]
     exact r
  ·rw[if_neg hx]at r
   subst r
   by_cases x0:ops[k]<0
   ·simp(maxDischargeDepth:=6) only[qA,seval,gd,nG,V,h1,W,Z,I,D,IK,x0]
    exact⟨False.elim,fun _=>trivial⟩
   ·have xN:(t.fl.length:Int)≤ops[k]:=zV
    simp(maxDischargeDepth:=6) only[qA,seval,gd,nG,V,h1,h2,W,Z,K,I,D,U,IK,x0,xN]
    exact⟨False.elim,fun _=>trivial⟩
 ·rintro f l _ V ⟨W,g4,rfl,U,IK,r⟩
  rw[List.drop_length,aht]at r
  rw[List.take_length]at IK
  subst r
  simp only[qA,seval,gd,nG,V,h1,Z,W,Int.lt_irrefl,IK]
  exact⟨fun _=>trivial,False.elim⟩
def abD(ops:List Int)(r:T)(W:IsSl r ops.length (ints ops))(X:ops.length≤1000):ae pE 29 [.agg [zT,aT,fT],r] []=some (if DN t.fl.length none ops=0 then .tup [.sl (yJ (inB t.fl.length ops)) t.fl.length false,qi 0]else .tup [.nilsl,qi (DN t.fl.length none ops)],[]):=by
 have hz:=Aj t c zT aT fT a7 a8 a9 aw aA az hT hC
 have hL:=fun fr lh sh=>aIG t c zT aT fT a7 a8 a9 aw aA az hT hC hN ops r W X fr lh sh
 have I:=hT.f
 obtain⟨fc,Y,f2⟩:=I
 have K:=Y.lenI
 have r1:t.fl.length*1≤roomy:=by unfold roomy;omega
 have O:t.fl.length≤roomy:=by unfold roomy;omega
 have Og:repl [T.b false] t.fl.length=yJ (inB t.fl.length []):=by
  rw[ahc]
  generalize t.fl.length=N
  induction N with
  |zero=>rfl
  |succ n ih=>rw[repl,ih,List.replicate_succ];rfl
 have gG:=wW t.fl.length ops
 have U:(yJ (inB t.fl.length ops)).take t.fl.length=yJ (inB t.fl.length ops):=List.take_of_length_le zV
 rw[au axr (by simp[c29])]
 simp(maxDischargeDepth:=6) only[qA,seval,c29,K,O,Og]
 generalize Z:DC pE 54 (.loop nG) _=D
 obtain⟨V,l2,s2,rfl,⟨rfl,hA,hB⟩,fR⟩:=qK I4 Z (hL _ _ _ yk yk yk yk yk yk yk)
 have e6:aa V 6= .isl .L 11 1 0 t.fl.length 1:=by rw[fR 6 zz];simp only[qA,seval]
 by_cases h0:DN t.fl.length none ops=0
 ·have hA:=hA h0
  simp(maxDischargeDepth:=6) only[qA,wD,seval,h0,e6,hA,gG,U]
 ·obtain⟨b1,b2⟩:=hB h0
  simp(maxDischargeDepth:=6) only[qA,wD,seval,h0,b1,b2]
end
def nU(bu:List FP)(i:Nat):Bool:=match aH ⟨true,[],[]⟩ bu i with
 |⟨false,_,[]⟩=>true
 |_=>false
def HE{bu:List FP}{i:Nat}{r:List (Sp×Nat)}(h:nU bu i=true):apart (aH ⟨true,[],[]⟩ bu i) ⟨false,r,[]⟩=true:=by
 unfold nU at h
 split at h
 ·rename_i q D
  rw[D]
  have:eM q []=true:=by unfold eM;rw[List.all_eq_true];intro x _;rfl
  unfold apart
  simp only[this]
  rfl
 ·cases h
def HF{E:Env}{call:ku}{n:Nat}{fr:Fr}{lh:aE ah}{sh:List ah}{ds:List (List Nat×aG)}{bu:List FP}{u:List Nat}{d:Option Nat}{f:Nat}{af:ai}{r:List aV}(O:E.fn f=some af)(U:af.eff=false)(V:af.own=none){q:List T×List Up}(D:Aa lh sh false (r.map (rd fr))=some q){v:T}{s:List ah}(hc:call f q.1 []=some (v,s))(W:scalar v=true)(X:UY ds=true)(K:u.all (nU bu)=true):
  aK E call n ((u,⟨d,.callf f r,none⟩)::ds) bu ⟨fr,lh,sh⟩=ke E call n ds (bu++ [fW]) (aj E call n [⟨d,.callf f r,none⟩] ⟨fr,lh,sh⟩):=by
 have I:bp E call n ⟨d,.callf f r,none⟩ ⟨fr,lh,sh⟩≠none→bU E call ⟨d,.callf f r,none⟩ ⟨fr,lh,sh⟩=some ⟨false,(bo (fz false aJ) (r.map (rd fr))).log (St.mk fr lh sh).get sh.length,[]⟩:=by
  intro Y
  unfold bU eN
  have Z:bD (St.mk fr lh sh).rho (.callf f r)=some (some (f,r.map (rd fr))):=by rw[dw];rfl
  unfold Aa at D
  rw[←mj (fr:=fr)]at D
  simp only[Z,O,U,D]
  have jf:Ev.inB (St.mk fr lh sh) q.2=true:=wx (fun t p h=>Nx _ _ t p h) _ _ D
  simp only[jf,Bool.not_true,Bool.false_eq_true,if_false,V,hc,W,if_true]
 rw[nN I,if_pos]
 ·unfold ke
  cases aj E call n [⟨d,.callf f r,none⟩] ⟨fr,lh,sh⟩with
  |none=>rfl
  |some s=>exact Cx ds _ _ s X
 ·unfold meets
  rw[List.all_eq_true]at K ⊢
  exact fun i hi=>HE (K i hi)
def nX(b:Bool)(p:Nat→Nat)(h:Nat):Nat:=uw b*p h+sf p h
theorem abE(cp:Nat→Bool)(g:Nat)(p:Nat→Nat)(h:Nat):stp cp g p h=nX (cp g) p h:=rfl
theorem Oh(a:Nat):wr .i64 (0+iJ a)=iJ a:=by rw[Int.zero_add,abz]
def rc1(N H i:Nat)(hi:i<N)(hN:N≤1000)(hH:H≤6)(B P:Nat)(hP:P=B+1+i)(Qy nT K wT:T)(b:Bool)(q1 q2:List T)(jf: ∀kk,iaV Qy (.i kk (i:Int)) 1=some (.vp (.b b::q1)))(iK: ∀kk,iaV nT (.i kk (i:Int)) 1=some (.vp (K::q2)))(D:froz K=true)(C:Nat→Nat)(r:Int)(FO: ∀h,h≤H→ae pE 66 [wT,K,qi r,qi (h:Int)] []=some (qi (iJ (C h)),[]))
  (cb:List T) (Y:cb[i]? =some (.isl .S P 1 0 (H+1) 1)) (hcl:cb.length=N) (kw:Nat) (T0:Nat) (O:List ah) (hwz: ∀s,(∀k,k<B→aI s k=aI O k)→ ∃us,∀lh,fzV lh s false (.isl .S kw 1 0 N 1)=some (wT,us))
  (fr:Fr) (lh:aE ah) (h3:aa fr 3= qi (H:Int)) (Z:aa fr 11=Qy) (ij:aa fr 13=nT) (ll:aa fr 15= .isl .S kw 1 0 N 1) (lp:aa fr 16= qi (iJ T0)) (mG:aa fr 17= qi r) (ft:aa fr 18= .isl .S B 1 0 N 1) (uu:aa fr 19= qi (i:Int)) (h20:aa fr 20= qi 0) (hB:aI O B=⟨1,.cells cb 0 true⟩) (hR:aI O P=⟨1,.cells (fb (H+1) fun _=>0) 0 false⟩) (hlen:P<O.length):
  Lp pE 134 oX fr lh O (.ext 4) fun f l s=>l=lh∧s.length=O.length∧aI s P=⟨1,.cells (fb (H+1) fun h=>iJ (nX b C h)) 0 false⟩∧(∀k,k≠P→aI s k=aI O k)∧aa f 16= qi (iJ (T0+Sm (H+1) (nX b C))):=by
 refine bK I1 (fun k f l s=>aa f 20= qi (k:Int)∧l=lh∧s.length=O.length∧aI s P=⟨1,.cells (fb (H+1) fun h=>if h<k then iJ (nX b C h)else 0) 0 false⟩∧(∀k,k≠P→aI s k=aI O k)∧aa f 16= qi (iJ (T0+Sm k (nX b C)))) (H+1) ⟨h20,rfl,rfl,by rw[hR];rfl,fun _ _=>rfl,lp⟩ ?_ ?_
 ·rintro k f l s hk pr ⟨U,rfl,hl,hr,fP,AQ⟩
  have V:(k:Int)≤(H:Int):=zV
  have hw:=aF (k:=k) zV
  have hPB: ¬B=P:=zV
  have I:aI s B=⟨1,.cells cb 0 true⟩:=(fP B hPB).trans hB
  obtain⟨u1,z1⟩:=hwz s fun j hj=>fP j zV
  have e1:=FO k zV
  have Ei:i+1≤N:=hi
  have DM:k+1≤H+1:=hk
  generalize hr0:(fun h=>if h<k then iJ (nX b C h)else 0)=r0 at hr
  have W:=wX (H+1) r0 hk
  have aCs:r0 k=0:=by rw[←hr0];simp
  rw[aCs]at W
  have hlr:=oL (H+1)
  have tn:=fun v=>Le (H+1) r0 k v hk
  have hd1: ∀fr ds bu (u:List Nat),aa fr 88= .isl .S kw 1 0 N 1→aa fr 92=K→aa fr 93= qi r→aa fr 94= qi (k:Int)→UY ds=true→u.all (nU bu)=true→aK pE (ae pE) 134 ((u,⟨some 95,.callf 66 [.t 88,.t 92,.t 93,.t 94],none⟩)::ds) bu ⟨fr,l,s⟩=ke pE (ae pE) 134 ds (bu++ [fW]) (aj pE (ae pE) 134 [⟨some 95,.callf 66 [.t 88,.t 92,.t 93,.t 94],none⟩] ⟨fr,l,s⟩):=by
   intro fr ds bu u g1 g2 g3 g4 hu hq
   refine HF Sx rfl rfl (q:=([wT,K,qi r,qi (k:Int)],u1)) ?_ e1 rfl hu hq
   simp(maxDischargeDepth:=6) only[qA,seval,g1,g2,g3,g4,z1,D]
  have ahx: ∀(v:Int),v=iJ (nX b C k)→fb (H+1) (fun g=>if g=k then v else r0 g)=fb (H+1) fun g=>if g<k+1 then iJ (nX b C g)else 0:=by
   intro v hv
   refine C9 fun g=> ?_
   rw[←hr0]
   by_cases e:g=k
   ·subst e;simp[hv]
   ·by_cases e2:g<k
    ·simp[e,e2,Nat.lt_succ_of_lt e2]
    ·have: ¬g<k+1:=zV
     simp[e,e2,this]
  have wS:Sm (k+1) (nX b C)=Sm k (nX b C)+nX b C k:=rfl
  have apK: ∀(v:Int),v=iJ (nX b C k)→(bI s P ⟨1,.cells (fb (H+1) fun g=>if g=k then v else r0 g) 0 false⟩).length=O.length∧ah.mk 1 (.cells (fb (H+1) fun g=>if g=k then v else r0 g) 0 false)=⟨1,.cells (fb (H+1) fun h=>if h<k+1 then iJ (nX b C h)else 0) 0 false⟩∧(∀(j:Nat),¬j=P→aI (bI s P ⟨1,.cells (fb (H+1) fun g=>if g=k then v else r0 g) 0 false⟩) j=aI O j)∧qi (iJ (T0+Sm k (nX b C)+nX b C k))= qi (iJ (T0+(Sm k (nX b C)+nX b C k))):=fun v hv=>⟨by rw[kz _ _ _ zV];exact hl,by rw[ahx v hv],fun j hj=>by rw[gse,if_neg hj];exact fP j hj,by rw[Nat.add_assoc]⟩
  by_cases An:k=0
  ·subst An
   have aCt:(0:Int)≤(H:Int):=V
   have aCu:aa f 20= qi 0:=U
   have e10:ae pE 66 [wT,K,qi r,qi 0] []=some (qi (iJ (C 0)),[]):=e1
   have vZ: ∀v,aI (bI s P ⟨1,.cells v 0 false⟩) P=⟨1,.cells v 0 false⟩:=fun v=>by rw[gse,if_pos rfl]
   have fF: ∀v,aI (bI s P ⟨1,.cells v 0 false⟩) B=⟨1,.cells cb 0 true⟩:=fun v=>by rw[gse,if_neg hPB];exact I
   have X:=fun v=>wX (H+1) (fun g=>if g=0 then v else r0 g) hk
   cases b
   ·have hv:(0:Int)=iJ (nX false C 0):=by simp[nX,uw,sf,Lt]
    have yh:nX false C 0=0:=by simp[nX,uw,sf]
    simp(maxDischargeDepth:=6) only[qA,seval,gd,oX,pr,h3,Z,ft,uu,aCu,AQ,aCt,jf,hi,Y,I,hr,hk,W]
    refine⟨hl, ?_,fP, ?_⟩
    ·rw[←ahx _ hv]
     refine congrArg (fun c=>ah.mk 1 (.cells c 0 false)) (C9 fun g=> ?_)
     by_cases e:g=0
     ·rw[if_pos e,e,aCs]
     ·rw[if_neg e]
    ·rw[wS,yh,Int.add_zero,abz];rfl
   ·have Gt:wr .i64 (0+iJ (C 0))=iJ (nX true C 0):=by rw[Oh];simp[nX,uw,sf]
    have aIM: ∀fr ds bu (u:List Nat),aa fr 88= .isl .S kw 1 0 N 1→aa fr 92=K→aa fr 93= qi r→aa fr 94= qi 0→UY ds=true→u.all (nU bu)=true→aK pE (ae pE) 134 ((u,⟨some 95,.callf 66 [.t 88,.t 92,.t 93,.t 94],none⟩)::ds) bu ⟨fr,l,s⟩=ke pE (ae pE) 134 ds (bu++ [fW]) (aj pE (ae pE) 134 [⟨some 95,.callf 66 [.t 88,.t 92,.t 93,.t 94],none⟩] ⟨fr,l,s⟩):=fun fr ds bu u g1 g2 g3 g4=>hd1 fr ds bu u g1 g2 g3 g4
    simp(maxDischargeDepth:=6) only[qA,bg,eO,aH,seval,gd,oX,pr,h3,Z,ij,ll,mG,ft,uu,aCu,AQ,aCt,jf,iK,hi,Y,I,hr,hk,DM,W,hlr,tn,aIM,e10,z1,D,am5,fF,vZ,X,rj,gq,D8,nU,Gt,AS]
    exact apK _ rfl
  ·obtain⟨m,rfl⟩: ∃m,k=m+1:=⟨k-1,by omega⟩
   have K9:(0:Int)<((m+1:Nat):Int):=zV
   have hwp:wr .i64 (((m+1:Nat):Int)-1)=(m:Int):=by rw[aZ zV];omega
   have e2:=FO m zV
   have fF: ∀v,aI (bI s P ⟨1,.cells v 0 false⟩) B=⟨1,.cells cb 0 true⟩:=fun v=>by rw[gse,if_neg hPB];exact I
   have vZ: ∀v,aI (bI s P ⟨1,.cells v 0 false⟩) P=⟨1,.cells v 0 false⟩:=fun v=>by rw[gse,if_pos rfl]
   cases b
   ·have yh:wr .i64 (0+iJ (C m))=iJ (nX false C (m+1)):=by rw[Oh];simp[nX,uw,sf]
    have hd2: ∀fr ds bu (u:List Nat),aa fr 112= .isl .S kw 1 0 N 1→aa fr 116=K→aa fr 117= qi r→aa fr 119= qi (m:Int)→UY ds=true→u.all (nU bu)=true→aK pE (ae pE) 134 ((u,⟨some 120,.callf 66 [.t 112,.t 116,.t 117,.t 119],none⟩)::ds) bu ⟨fr,l,s⟩=ke pE (ae pE) 134 ds (bu++ [fW]) (aj pE (ae pE) 134 [⟨some 120,.callf 66 [.t 112,.t 116,.t 117,.t 119],none⟩] ⟨fr,l,s⟩):=by
     intro fr ds bu u g1 g2 g3 g4 hu hq
     refine HF Sx rfl rfl (q:=([wT,K,qi r,qi (m:Int)],u1)) ?_ e2 rfl hu hq
     simp(maxDischargeDepth:=6) only[qA,seval,g1,g2,g3,g4,z1,D]
    have X:=fun v=>wX (H+1) (fun g=>if g=m+1 then v else r0 g) hk
    simp(maxDischargeDepth:=6) only[qA,bg,eO,aH,seval,gd,oX,pr,h3,Z,ij,ll,mG,ft,uu,U,AQ,V,hw,jf,iK,hi,Y,I,hr,hk,DM,W,hlr,tn,hd2,K9,hwp,e2,z1,D,am5,fF,vZ,X,rj,gq,D8,nU,yh,AS,wS]
    exact apK _ rfl
   ·have Gt:wr .i64 (0+iJ (C (m+1)))=iJ (C (m+1)):=Oh _
    have yh:iJ (C (m+1)+C m)=iJ (nX true C (m+1)):=by simp[nX,uw,sf]
    obtain⟨u2,z2⟩:=hwz (bI s P ⟨1,.cells (fb (H+1) fun g=>if g=m+1 then iJ (C (m+1))else r0 g) 0 false⟩) fun j hj=>by rw[gse,if_neg zV];exact fP j zV
    have hd2: ∀fr ds bu (u:List Nat),aa fr 112= .isl .S kw 1 0 N 1→aa fr 116=K→aa fr 117= qi r→aa fr 119= qi (m:Int)→UY ds=true→u.all (nU bu)=true→aK pE (ae pE) 134 ((u,⟨some 120,.callf 66 [.t 112,.t 116,.t 117,.t 119],none⟩)::ds) bu ⟨fr,l,bI s P ⟨1,.cells (fb (H+1) fun g=>if g=m+1 then iJ (C (m+1))else r0 g) 0 false⟩⟩=ke pE (ae pE) 134 ds (bu++ [fW]) (aj pE (ae pE) 134 [⟨some 120,.callf 66 [.t 112,.t 116,.t 117,.t 119],none⟩] ⟨fr,l,bI s P ⟨1,.cells (fb (H+1) fun g=>if g=m+1 then iJ (C (m+1))else r0 g) 0 false⟩⟩):=by
     intro fr ds bu u g1 g2 g3 g4 hu hq
     refine HF Sx rfl rfl (q:=([wT,K,qi r,qi (m:Int)],u2)) ?_ e2 rfl hu hq
     simp(maxDischargeDepth:=6) only[qA,seval,g1,g2,g3,g4,z2,D]
    have X:=fun v=>wX (H+1) (fun g=>if g=m+1 then v else r0 g) hk
    have Iw:=fun v1 v2=>Le (H+1) (fun g=>if g=m+1 then v1 else r0 g) (m+1) v2 hk
    have hmg: ∀(v1 v2:Int),(fun g=>if g=m+1 then v2 else if g=m+1 then v1 else r0 g)=fun g=>if g=m+1 then v2 else r0 g:=fun v1 v2=>funext fun g=>by by_cases e:g=m+1 <;> simp[e]
    simp(maxDischargeDepth:=6) only[qA,bg,eO,aH,seval,gd,oX,pr,h3,Z,ij,ll,mG,ft,uu,U,AQ,V,hw,jf,iK,hi,Y,I,hr,hk,DM,W,hlr,tn,hd1,hd2,K9,hwp,e1,e2,z1,z2,D,am5,fF,vZ,X,Iw,rj,gq,D8,nU,Gt,yh,AS,wS,cS,hmg]
    exact apK _ rfl
 ·rintro f _ s pr ⟨U,rfl,hl,hr,fP,AQ⟩
  have V: ¬((H+1:Nat):Int)≤(H:Int):=zV
  have e:fb (H+1) (fun h=>if h<H+1 then iJ (nX b C h)else 0)=fb (H+1) fun h=>iJ (nX b C h):=by
   unfold fb
   refine List.map_congr_left fun g hg=> ?_
   dsimp only
   rw[if_pos (List.mem_range.1 hg)]
  rw[e]at hr
  simp only[qA,seval,gd,oX,pr,h3,U,V]
  exact⟨hl,hr,fP,AQ⟩
theorem Lv{α:Type}{s:List ah}{nx m:Nat}(f g:α→T): ∀(l:List α),(∀a∈l,∃us,∀r:Sp→Nat→ah,(∀k,r .S k=aI s k)→(fz false m (f a)).run r nx=some (g a,us))→ ∃us,∀r:Sp→Nat→ah,(∀k,r .S k=aI s k)→(bo (fz false m) (l.map f)).run r nx=some (l.map g,us)
 | [],_=>⟨[],fun _ _=>rfl⟩
 |a::l,h=>by
  obtain⟨I,e1⟩:=h a List.mem_cons_self
  obtain⟨K,e2⟩:=Lv f g l fun b O=>h b (List.mem_cons_of_mem _ O)
  refine⟨I++K,fun r D=> ?_⟩
  simp only[List.map_cons,bo,bz,e1 r D,e2 r D,Option.bind_some,Q.run]
structure Tb (s:List ah) (kw N H:Nat) (w:Nat→Nat→Int):Prop where
 n:aI s kw=⟨1,.cells ((List.range N).map fun i=> .isl .S (kw+1+i) 1 0 (H+1) 1) 0 true⟩
 r: ∀i,i<N→aI s (kw+1+i)=⟨1,.cells (fb (H+1) (w i)) 0 false⟩
theorem Tb.fz{s:List ah}{D N H:Nat}{w:Nat→Nat→Int}(h:Tb s D N H w): ∃us,∀lh,fzV lh s false (.isl .S D 1 0 N 1)=some (abB N H w,us):=by
 obtain⟨us,e⟩:=Lv (s:=s) (nx:=s.length) (m:=7) (fun i=>T.isl .S (D+1+i) 1 0 (H+1) 1) (fun i=>Uk H (w i)) (List.range N) fun i hi=>by
  have hi:=List.mem_range.1 hi
  refine⟨[(.S,D+1+i,⟨1,.cells (fb (H+1) (w i)) (fb (H+1) (w i)).length false⟩)],fun O K=> ?_⟩
  unfold Ev.fz
  simp only[Bool.false_and,Bool.false_eq_true,if_false,Q.run,K,h.r i hi,if_true]
  rw[if_pos (by rw[oL];omega)]
  simp only[Q.run]
  rw[List.drop_zero,Nat.mul_one,List.take_of_length_le (by rw[oL];omega)]
  rfl
 refine⟨us++ [(.S,D,⟨1,.cells ((List.range N).map fun i=> .isl .S (D+1+i) 1 0 (H+1) 1) ((List.range N).map fun i=>T.isl .S (D+1+i) 1 0 (H+1) 1).length true⟩)],fun lh=> ?_⟩
 have I: ∀k,(St.mk .nil lh s).get .S k=aI s k:=fun _=>rfl
 unfold fzV aJ Ev.fz
 simp only[Bool.false_and,Bool.false_eq_true,if_false,Q.run,I,h.n,if_true]
 rw[if_pos yv,List.drop_zero,Nat.mul_one,List.take_of_length_le yv,bz,e _ I]
 rfl
def apL{s:List ah}{r N:Nat}(h:aI s r=⟨1,.cells (List.replicate N .nilsl) 0 true⟩): ∃us,∀lh,fzV lh s false (.isl .S r 1 0 N 1)=some (.sl (List.replicate N .nilsl) N false,us):=by
 have e: ∀(n:Nat) (D:Sp→Nat→ah) (nx:Nat),(bo (Ev.fz false 7) (List.replicate n .nilsl)).run D nx=some (List.replicate n .nilsl,[]):=by
  intro n D nx
  induction n with
  |zero=>rfl
  |succ n ih=>
   simp only[List.replicate_succ,bo,bz,ih]
   rfl
 refine⟨[]++ [(.S,r,⟨1,.cells (List.replicate N .nilsl) (List.replicate N T.nilsl).length true⟩)],fun lh=> ?_⟩
 have I: ∀k,(St.mk .nil lh s).get .S k=aI s k:=fun _=>rfl
 unfold fzV aJ Ev.fz
 simp only[Bool.false_and,Bool.false_eq_true,if_false,Q.run,I,h,if_true]
 rw[if_pos yv,List.drop_zero,Nat.mul_one,List.take_of_length_le yv,bz,e]
 rfl
def AU(B H N i:Nat):List T:=(List.range N).map fun j=>if j<i then .isl .S (B+1+j) 1 0 (H+1) 1 else .nilsl
theorem HG(B H N i:Nat):(AU B H N i).length=N:=by simp[AU]
def ahy(B H N i:Nat)(hi:i<N):splice (AU B H N i) i [.isl .S (B+1+i) 1 0 (H+1) 1]=AU B H N (i+1):=by
 rw[qa _ _ _ (by rw[HG];exact hi)]
 refine List.ext_getElem (by simp[AU]) fun j h1 h2=> ?_
 rw[List.getElem_set]
 simp only[AU,List.getElem_map,List.getElem_range]
 by_cases e:i=j
 ·subst e;simp
 ·rw[if_neg e]
  by_cases e2:j<i
  ·rw[if_pos e2,if_pos zV]
  ·rw[if_neg e2,if_neg zV]
theorem ahz(B H N i:Nat)(hi:i<N):(AU B H N (i+1))[i]? =some (.isl .S (B+1+i) 1 0 (H+1) 1):=by
 unfold AU
 rw[List.getElem?_map,List.getElem?_range hi]
 simp
section
variable(N H:Nat)(hN:N≤1000)(hH:H≤6)(Qy nT:T)(cp:Nat→Bool)(nx:Nat→List Nat)(jf: ∀f,f<N→ ∃q,∀kk,iaV Qy (.i kk (f:Int)) 1=some (.vp (.b (cp f)::q)))(iK: ∀f,f<N→ ∃q,∀kk,iaV nT (.i kk (f:Int)) 1=some (.vp (qL (nx f)::q)))
include hN hH jf iK
def rc2(B:Nat)(W:T)(C:Nat→Nat→Nat)(r:Int)(FO: ∀i h,i<N→h≤H→ae pE 66 [W,qL (nx i),qi r,qi (h:Int)] []=some (qi (iJ (C i h)),[]))(X:Nat)(T0:Nat)(O:List ah)(Y: ∀s,(∀k,k<B→aI s k=aI O k)→ ∃us,∀lh,fzV lh s false (.isl .S X 1 0 N 1)=some (W,us))
  (fr:Fr) (lh:aE ah) (h3:aa fr 3= qi (H:Int)) (Z:aa fr 11=Qy) (ij:aa fr 13=nT) (cV:aa fr 14= qi (N:Int)) (ll:aa fr 15= .isl .S X 1 0 N 1) (lp:aa fr 16= qi (iJ T0)) (mG:aa fr 17= qi r) (ft:aa fr 18= .isl .S B 1 0 N 1) (uu:aa fr 19= qi 0) (hB:aI O B=⟨1,.cells (AU B H N 0) 0 true⟩) (hlen:O.length=B+1):
  Lp pE 134 xE fr lh O (.ext 2) fun f l s=>l=lh∧s.length=B+1+N∧Tb s B N H (fun i h=>iJ (nX (cp i) (C i) h))∧(∀k,k<B→aI s k=aI O k)∧aa f 16= qi (iJ (T0+Sm N fun i=>Sm (H+1) (nX (cp i) (C i)))):=by
 refine bK I2 (fun i f l s=>aa f 19= qi (i:Int)∧l=lh∧s.length=B+1+i∧aI s B=⟨1,.cells (AU B H N i) 0 true⟩∧(∀j,j<i→aI s (B+1+j)=⟨1,.cells (fb (H+1) fun h=>iJ (nX (cp j) (C j) h)) 0 false⟩)∧(∀k,k<B→aI s k=aI O k)∧aa f 16= qi (iJ (T0+Sm i fun i=>Sm (H+1) (nX (cp i) (C i))))) N ⟨uu,rfl,by omega,hB,fun j hj=>absurd hj (Nat.not_lt_zero j),fun _ _=>rfl,lp⟩ ?_ ?_
 ·rintro i f l s hi K ⟨I,rfl,U,hb,hr,V,AQ⟩
  have DT:(i:Int)<(N:Int):=zV
  have hw:=aF (k:=i) zV
  have hw2:wr .i64 ((H:Int)+1)=((H+1:Nat):Int):=by rw[aZ zV];omega
  obtain⟨q1,z1⟩:=jf i hi
  obtain⟨q2,z2⟩:=iK i hi
  have Ei:i+1≤N:=hi
  have hcl:=HG B H N i
  have fF:=ahy B H N i hi
  have Og:repl [qi 0] (H+1)=fb (H+1) fun _=>0:=by
   generalize H+1=n
   induction n with
   |zero=>rfl
   |succ n ih=>
    rw[repl,ih]
    unfold fb
    rw[List.range_succ_eq_map,List.map_cons,List.map_map]
    rfl
  have r1:(H+1)*8≤roomy:=by unfold roomy;omega
  have r2:H+1≤roomy:=by unfold roomy;omega
  have hsB: ∀e,aI (s++ [e]) B=⟨1,.cells (AU B H N i) 0 true⟩:=fun e=>by rw[sL zV];exact hb
  have hsv: ∀e,Ev.stV l (s++ [e]) (.ptr .S B 1 i) (.isl .S (B+1+i) 1 0 (H+1) 1) 1=some (l,bI (s++ [e]) B ⟨1,.cells (AU B H N (i+1)) 0 true⟩):=fun e=>by
   rw[iQ (by rfl) (hsB e),dP,if_pos ⟨rfl,rfl,rfl,Nat.zero_le _,by omega⟩]
   show some (l,bI _ B ⟨1,.cells (splice (AU B H N i) i [.isl .S (B+1+i) 1 0 (H+1) 1]) 0 true⟩)=_
   rw[fF]
  simp(maxDischargeDepth:=6) only[qA,seval,xE,K,h3,cV,ft,I,DT,hi,hw2,AN,r1,r2,Og,U,ahb,hsv]
  have gs: ∀j,j<B+1+i→j≠B→aI (bI (s++ [⟨1,.cells (fb (H+1) fun _=>0) 0 false⟩]) B ⟨1,.cells (AU B H N (i+1)) 0 true⟩) j=aI s j:=fun j hj hjB=>by rw[gse,if_neg hjB,sL zV]
  have gB:aI (bI (s++ [⟨1,.cells (fb (H+1) fun _=>0) 0 false⟩]) B ⟨1,.cells (AU B H N (i+1)) 0 true⟩) B=⟨1,.cells (AU B H N (i+1)) 0 true⟩:=by rw[gse,if_pos rfl]
  have gP:aI (bI (s++ [⟨1,.cells (fb (H+1) fun _=>0) 0 false⟩]) B ⟨1,.cells (AU B H N (i+1)) 0 true⟩) (B+1+i)=⟨1,.cells (fb (H+1) fun _=>0) 0 false⟩:=by rw[gse,if_neg zV,←U];exact FF (k:=0)
  have l2:(bI (s++ [⟨1,.cells (fb (H+1) fun _=>0) 0 false⟩]) B ⟨1,.cells (AU B H N (i+1)) 0 true⟩).length=B+1+i+1:=by rw[kz _ _ _ (by rw[List.length_append];omega),List.length_append,U];rfl
  generalize bI (s++ [⟨1,.cells (fb (H+1) fun _=>0) 0 false⟩]) B ⟨1,.cells (AU B H N (i+1)) 0 true⟩=s2 at*
  generalize hD:DC pE 134 (.loop oX) _=D
  obtain⟨f3,l3,s3,rfl,⟨rfl,hl3,hP3,Oe,t16⟩,Aq⟩:=qK I1 hD (rc1 N H i hi hN hH B (B+1+i) rfl Qy nT (qL (nx i)) W (cp i) q1 q2 z1 z2 (by unfold qL;split <;> rfl) (C i) r (fun u=>FO i u hi) (AU B H N (i+1)) (ahz B H N i hi) (HG _ _ _ _) X (T0+Sm i fun i=>Sm (H+1) (nX (cp i) (C i))) _ (fun s' GQ=>Y s' fun k hk=>(GQ k hk).trans ((gs k zV zV).trans (V k hk))) _ _ (by simp only[qA,seval,K,h3]) (by simp only[qA,seval,K,Z]) (by simp only[qA,seval,K,ij]) (by simp only[qA,seval,K,ll]) (by simp only[qA,seval,AQ]) (by simp only[qA,seval,K,mG]) (by simp only[qA,seval,K,ft]) (by simp only[qA,seval,I]) yk gB gP zV)
  have f19:aa f3 19= qi (i:Int):=by rw[Aq 19 zz];simp only[qA,seval,I]
  simp(maxDischargeDepth:=6) only[qA,seval,gd,f19,hw,t16]
  refine⟨by omega,(Oe B zV).trans gB,fun j hj=> ?_,fun k hk=>(Oe k zV).trans ((gs k zV zV).trans (V k hk)), ?_⟩
  ·by_cases e:j=i
   ·subst e;exact hP3
   ·rw[Oe _ zV,gs _ zV zV,hr j zV]
  ·rw[Nat.add_assoc];rfl
 ·rintro f l s K ⟨I,rfl,U,hb,hr,V,AQ⟩
  simp only[qA,seval,gd,xE,K,cV,I,Int.lt_irrefl]
  have e:AU B H N N=(List.range N).map fun i=> .isl .S (B+1+i) 1 0 (H+1) 1:=by
   unfold AU
   refine List.map_congr_left fun g hg=> ?_
   rw[if_pos (List.mem_range.1 hg)]
  exact⟨U,⟨by rw[hb,e],hr⟩,V,AQ⟩
omit hN hH jf iK in
theorem abF(B:Nat):AU B H N 0=List.replicate N .nilsl:=by
 unfold AU
 refine List.eq_replicate_iff.2 ⟨by simp,fun b r=> ?_⟩
 obtain⟨j,_,rfl⟩:=List.mem_map.1 r
 simp
omit hN hH jf iK in
theorem Lw(n:Nat):repl [T.nilsl] n=List.replicate n .nilsl:=by
 induction n with
 |zero=>rfl
 |succ n ih=>rw[repl,ih,List.replicate_succ];rfl
def rc3(J:Nat→Nat→Bool)(hJ:nx=kN N J)(fr:Fr)(lh:aE ah)(s0:List ah)(h3:aa fr 3= qi (H:Int))(Z:aa fr 11=Qy)(ij:aa fr 13=nT)(cV:aa fr 14= qi (N:Int))(ll:aa fr 15= .isl .S 0 1 0 N 1)(lp:aa fr 16= qi 0)(mG:aa fr 17= qi 1)(V:s0= [⟨1,.cells (List.replicate N .nilsl) 0 true⟩]):
  Lp pE 134 xF fr lh s0 (.ext 0) fun f l s=>aa f 16= qi (iJ (Ao N H (cB N J cp) 6)):=by
 subst hJ
 refine bK I3 (fun k f l s=>aa f 17= qi ((k+1:Nat):Int)∧aa f 16= qi (iJ (Ao N H (cB N J cp) k))∧ ∃I,aa f 15= .isl .S I 1 0 N 1∧((k=0∧aI s I=⟨1,.cells (List.replicate N .nilsl) 0 true⟩∧I+1≤s.length)∨(k≠0∧Tb s I N H (fun i h=>iJ (cB N J cp k i h))∧I+N+1≤s.length))) 6 ⟨mG,lp,0,ll,.inl ⟨rfl,by rw[V];rfl,by rw[V];exact Nat.le_refl _⟩⟩ ?_ ?_
 ·rintro k f l s hk K ⟨DL,AQ,I,g15,O⟩
  have W:((k+1:Nat):Int)≤6:=zV
  have hw:wr .i64 (((k+1:Nat):Int)+1)=((k+1+1:Nat):Int):=by rw[aZ zV];omega
  obtain⟨Y,hwz,FO⟩: ∃Y,(∀U,(∀j,j<s.length→aI U j=aI s j)→ ∃us,∀lh,fzV lh U false (.isl .S I 1 0 N 1)=some (Y,us))∧ ∀i h,i<N→h≤H→ae pE 66 [Y,qL (kN N J i),qi ((k+1:Nat):Int),qi (h:Int)] []=some (qi (iJ (cC N J cp k i h)),[]):=by
   rcases O with⟨rfl,O,hb⟩|⟨h0,O,hb⟩
   ·exact⟨_,fun U GQ=>apL ((GQ I zV).trans O),fun i h _ _=>abC _ _ h⟩
   ·refine⟨_,fun U GQ=>(Tb.mk ((GQ I zV).trans O.n) fun i hi=>(GQ _ zV).trans (O.r i hi)).fz,fun i h hi hh=> ?_⟩
    have hg2: ∀g∈kN N J i,g<N:=fun g hg=>List.mem_range.1 (List.mem_filter.1 hg).1
    have gG:(kN N J i).length≤1000:=Nat.le_trans (HC (J i) N) hN
    have hsl:IsSl (qL (kN N J i)) (kN N J i).length (ints ((kN N J i).map Int.ofNat)):=by
     unfold qL
     split
     ·rename_i h;rw[h];exact .inl ⟨rfl,rfl,rfl⟩
     ·exact .inr ⟨_,rfl⟩
    rw[ahw N H (cB N J cp k) (kN N J i) hg2 gG _ hsl h hh _ zV]
    obtain⟨m,rfl⟩: ∃m,k=m+1:=⟨k-1,by omega⟩
    rw[show HD (kN N J i) (fun j=>cB N J cp (m+1) j h)=Sm N fun j=>uw (J i j)*cB N J cp (m+1) j h from ahu N (J i) _]
    rfl
  have r1:N*24≤roomy:=by unfold roomy;omega
  have r2:N≤roomy:=by unfold roomy;omega
  have Og:=Lw N
  simp(maxDischargeDepth:=6) only[qA,seval,xF,K,cV,DL,W,AN,r1,r2,Og,Ld]
  generalize hD:DC pE 134 (.loop xE) _=D
  obtain⟨f3,l3,s3,rfl,⟨rfl,hl3,hT,Oe,X⟩,Aq⟩:=qK I2 hD (rc2 N H hN hH Qy nT cp (kN N J) jf iK s.length Y (cC N J cp k) ((k+1:Nat):Int) FO I (Ao N H (cB N J cp) k) _ (fun U GQ=>hwz U fun j hj=>(GQ j hj).trans (sL hj)) _ _ (by simp only[qA,seval,K,h3]) (by simp only[qA,seval,K,Z]) (by simp only[qA,seval,K,ij]) (by simp only[qA,seval,K,cV]) (by simp only[qA,seval,g15]) (by simp only[qA,seval,AQ]) (by simp only[qA,seval,DL]) yk yk (by rw[abF];exact FF (k:=0)) yv)
  have f17:aa f3 17= qi ((k+1:Nat):Int):=by rw[Aq 17 zz];simp only[qA,seval,DL]
  have f18:aa f3 18= .isl .S s.length 1 0 N 1:=by rw[Aq 18 zz];simp only[qA,seval]
  have et:(Ao N H (cB N J cp) k+Sm N fun i=>Sm (H+1) (nX (cp i) (cC N J cp k i)))=Ao N H (cB N J cp) (k+1):=by
   have e1:(Sm N fun i=>Sm (H+1) (nX (cp i) (cC N J cp k i)))=Sm N fun i=>Sm (H+1) fun h=>cB N J cp (k+1) i h:=xe fun i _=>xe fun h _=>(alF N J cp k i h).symm
   rw[e1,QL (fun i h=>cB N J cp (k+1) i h) (H+1) N]
   rfl
  rw[et]at X
  simp(maxDischargeDepth:=6) only[qA,seval,gd,f17,f18,hw,X]
  refine⟨s.length,rfl,.inr ⟨?_,by omega⟩⟩
  have:(fun i h=>iJ (cB N J cp (k+1) i h))=fun i h=>iJ (nX (cp i) (cC N J cp k i) h):=funext fun i=>funext fun h=>by rw[alF];rfl
  rw[this]
  exact hT
 ·rintro f l s K ⟨DL,AQ,_⟩
  have W: ¬((6+1:Nat):Int)≤6:=zV
  simp only[qA,seval,gd,xF,DL]
  exact AQ
end
def Ul(c:Ct)(fl:List Fl)(ops:List Int)(H:Nat):Int:=iJ (Ao fl.length H (cB fl.length (jn c fl) (jc ops)) 6)
def HH(t:Tt)(c:Ct)(ops:List Int)(H:Int):Int:=if ee t c=0 then(if DN t.fl.length none ops=0 then(if H<0∨6<H then 5 else 0)else DN t.fl.length none ops)else ee t c
section
variable(t:Tt)(c:Ct)(zT aT fT a7 a8 a9 aw aA az:T)(hT:jV t zT aT fT)(hC:kR c a7 a8 a9 aw aA az)(hA:CY c)(hL: ∀f∈t.fl,f.nu.length≤gJ)(hN:t.fl.length≤1000)
include hT hC hA hL hN
def ahA(ops:List Int)(K:T)(O:IsSl K ops.length (ints ops))(I:ops.length≤1000)(H:Int): ∃s,ae pE 28 [.agg [zT,aT,fT],.agg (aO c a7 a8 a9 aw aA az),K,qi H] []=some (.tup [qi (if HH t c ops H=0 then Ul c t.fl ops H.toNat else 0),qi (HH t c ops H)],s):=by
 have r:=Aj t c zT aT fT a7 a8 a9 aw aA az hT hC
 have e1:=Qg t c zT aT fT a7 a8 a9 aw aA az hT hC hA hL
 have e2:=abD t c zT aT fT a7 a8 a9 aw aA az hT hC hN ops K O I
 have e3:=FN t c zT aT fT a7 a8 a9 aw aA az hT hC hN
 have TX:=O.froz
 have X:=O.froz1
 obtain⟨fc,Y,f2⟩:=id hT.f
 have U:=Y.lenI
 unfold aO at*
 unfold HH
 rw[au axq (by simp[c28])]
 by_cases h1:ee t c=0
 ·by_cases h2:DN t.fl.length none ops=0
  ·by_cases h3:H<0∨6<H
   ·by_cases h4:H<0
    ·simp(maxDischargeDepth:=6) only[qA,seval,c28,r,e1,e2,h1,h2,h4,TX,Sw,MK,true_or,yy]
    ·have h5:6<H:=zV
     simp(maxDischargeDepth:=6) only[qA,seval,c28,r,e1,e2,h1,h2,h4,h5,TX,Sw,MK,or_true,yy]
   ·obtain⟨m,rfl⟩: ∃m:Nat,H=(m:Int):=⟨H.toNat,by omega⟩
    have h4: ¬(m:Int)<0:=zV
    have h5: ¬6<(m:Int):=zV
    have Z:t.fl.length*24≤roomy:=by unfold roomy;omega
    have r2:t.fl.length≤roomy:=by unfold roomy;omega
    have Og:=Lw t.fl.length
    have hnf:froz1 (bj t.fl.length (((List.range t.fl.length).map (kN t.fl.length (jn c t.fl))).map qL))=true:=by unfold bj;split <;> rfl
    have iK: ∀f,f<t.fl.length→ ∃q,∀kk,iaV (bj t.fl.length (((List.range t.fl.length).map (kN t.fl.length (jn c t.fl))).map qL)) (.i kk (f:Int)) 1=some (.vp (qL (kN t.fl.length (jn c t.fl) f)::q)):=fun f W=>by
     have I:(((List.range t.fl.length).map (kN t.fl.length (jn c t.fl))).map qL).length=t.fl.length:=yv
     unfold bj
     rw[if_neg zV]
     refine⟨(((List.range t.fl.length).map (kN t.fl.length (jn c t.fl))).map qL).drop (f+1),fun kk=> ?_⟩
     rw[cX,if_pos ⟨by omega,by simpa using W,by rw[I];simp;omega⟩,Int.toNat_natCast,Nat.mul_one,List.drop_eq_getElem_cons (by rw[I];exact W)]
     simp
    generalize bj t.fl.length (((List.range t.fl.length).map (kN t.fl.length (jn c t.fl))).map qL)=nT at*
    simp(maxDischargeDepth:=6) only[qA,eO,seval,c28,r,e1,e2,e3,h1,h2,h4,h5,TX,Sw,MK,aeb,U,AN,Z,r2,Og]
    generalize hD:DC pE 134 (.loop xF) _=D
    obtain⟨f3,l3,s3,rfl,V,Aq⟩:=qK I3 hD (rc3 t.fl.length m hN zV (.sl (yJ (inB t.fl.length ops)) t.fl.length false) nT (jc ops) (kN t.fl.length (jn c t.fl)) (aby t.fl.length ops) iK (jn c t.fl) rfl _ _ _ yk yk yk yk yk yk yk rfl)
    simp(maxDischargeDepth:=6) only[qA,seval,V]
    simp only[or_self,if_false,if_true]
    exact⟨_,rfl⟩
  ·simp(maxDischargeDepth:=6) only[qA,seval,c28,r,e1,e2,h1,h2,TX,Sw,MK,yy]
 ·simp(maxDischargeDepth:=6) only[qA,seval,c28,r,e1,h1,Sw,yy]
end
def wm0:ah→Bool
 |⟨_,.cells _ 0 false⟩=>true
 |_=>false
def LgR(g:Lg)(c:List T):Prop:=c=Eh g (.sl (iv g.du) g.du.length false)
section
variable(N:Nat)(J:Nat→Nat→Bool)(cp:Nat→Bool)(ok:List (Int×Bool)→Bool)(lg:List (Int×Bool)→Lg)
def tc(r:List (Int×Bool)→Nat→Nat→List Lg)(x:List (Int×Bool))(f h:Nat):List Lg:=(if ok x=true then [lg x]else [])++(kN N J f).flatMap fun g=>r x g h
def eI:Nat→List (Int×Bool)→Nat→Nat→List Lg
 |0,_,_,_=> []
 |n+1,d,f,h=>(if cp f=true then tc N J ok lg (eI n) (d++ [((f:Int),false)]) f h else [])++(if h=0 then []else tc N J ok lg (eI n) (d++ [((f:Int),true)]) f (h-1))
end
structure Vs (s:List ah) (F:T) (d:List (Int×Bool)) (out:List Lg):Prop where
 b0: ∃ov,aI s 0=⟨1,.cells [ov] 0 true⟩∧((ov= .nilsl∧out= []∧s.length≤4)∨ ∃g cs,ov= .isl .S 4 g 0 out.length 7∧aI s 4=⟨g,.cells cs 0 false⟩∧aD LgR out cs∧s.length=5)
 b1: ∃dv,aI s 1=⟨1,.cells [dv] 0 true⟩∧((dv= .nilsl∧d= []∧s.length=3)∨ ∃g st,dv= .isl .S 3 g 0 d.length 2∧aI s 3=⟨g,.cells (iv d++st) 0 false⟩∧4≤s.length)
 b2:aI s 2=⟨1,.cells [F] 0 true⟩
def IM:ak→ak
 | .seq a _=>a
 |c=>c
def Mu:ak→ak
 | .seq _ b=>b
 |c=>c
section
variable(N:Nat)(F:T)(d:List (Int×Bool))(out:List Lg)(f:Nat)(b:Bool)
end
def abG{E:Env}{n:Nat}{a:ak}{fr:Fr}{lh:aE ah}{sh:List ah}{D:Option (Out×St)}(r:DC E n a ⟨fr,lh,sh⟩=D){P:Fr→aE ah→List ah→Prop}(h: ∃f l s,DC E n a ⟨fr,lh,sh⟩=some (.nrm,⟨f,l,s⟩)∧P f l s):
  ∃f l s,D=some (.nrm,⟨f,l,s⟩)∧P f l s∧DC E n a ⟨fr,lh,sh⟩=some (.nrm,⟨f,l,s⟩):=by
 obtain⟨f,l,s,e,p⟩:=h
 exact⟨f,l,s,r.symm.trans e,p,e⟩
section
end
def Dd{m:Nat}{lh:aE ah}{s:List ah}{k g n sz:Nat}{cs:List T}(h:aI s k=⟨g,.cells cs 0 false⟩)(r:cs.length=n*sz):fzW m lh s false (.isl .S k g 0 n sz)=some (.sl cs n false,[(.S,k,⟨g,.cells cs cs.length false⟩)]):=by
 have D:(St.mk .nil lh s).get .S k=aI s k:=rfl
 unfold fzW Ev.fz
 simp only[Bool.false_and,Bool.false_eq_true,if_false,Q.run,D,h,if_true]
 rw[if_pos zV,List.drop_zero,←r,List.take_length]
 rfl
def apM(out:List Lg)(v:T):Prop:= ∃cs,IsSl v out.length cs∧aD LgR out cs
section
def kP(N:Nat)(J:Nat→Nat→Bool)(cp:Nat→Bool)(ok:List (Int×Bool)→Bool)(lg:List (Int×Bool)→Lg)(H:Nat):List Lg:=(List.range N).flatMap fun f=>eI N J cp ok lg 6 [] f H
end
theorem abH{E:Env}{call:ku}{n:Nat}{fr:Fr}{lh:aE ah}{sh:List ah}{ds:List (List Nat×aG)}{bu:List FP}{u:List Nat}{r sz bytes:Nat}{s x:aV}{D:Bool}(hs:rd fr s= .nilsl)(hx:rd fr x= .nilsl):aK E call n ((u,⟨some r,.app sz bytes s x false D,none⟩)::ds) bu ⟨fr,lh,sh⟩=ke E call n ds (bu++ [fW]) (aj E call n [⟨some r,.app sz bytes s x false D,none⟩] ⟨fr,lh,sh⟩):=by
 rw[nN (fp:=fW),rf,if_pos rfl]
 intro I
 obtain⟨v,O,hr,U⟩:=qy (q:=kq r sz bytes .nilsl .nilsl false D) (by rfl) (by rw[dw];show kq _ _ _ (rd fr s) (rd fr x) _ _=_;rw[hs,hx];rfl) I
 have K:(kq r sz bytes .nilsl .nilsl false D).run (St.mk fr lh sh).get (St.mk fr lh sh).sh.length=some (.val .nilsl []):=rfl
 rw[K]at hr
 cases hr
 exact U rfl
def HI(lh:aE ah)(cv:T)(cs:List Nat):Prop:=IsSl cv cs.length (ints (cs.map Int.ofNat))∨aW lh cv 48 1 cs.length (ints (cs.map Int.ofNat))
def dj:ak→ak
 | .seq _ (.seq (.block _ (.seq _ t)) _)=>t
 |c=>c
def ux:ak→ak→ak
 | .seq a (.seq (.block i (.seq b _)) z),t=> .seq a (.seq (.block i (.seq b t)) z)
 |c,_=>c
def Um:bG=ux bG (dj bG):=nr rfl
theorem Un:dj bG= .seq (IM (dj bG)) (.seq (.seq (IM (IM (Mu (dj bG)))) (Mu (IM (Mu (dj bG))))) (Mu (Mu (dj bG)))):=nr rfl
def DtV(d:List (Int×Bool))(r:T):Prop:=(d= []∧r= .nilsl)∨(d≠ []∧r= .sl (iv d) d.length false)
def ex1(d:List (Int×Bool))(dT:T)(hd:DtV d dT)(QJ:d.length≤5)(f:Nat)(b:Bool)(cs:List Nat)(k:Nat)(hk:k<cs.length)(hf:cs[k]=f)(cv:T)(fr:Fr)(lh:aE ah)(s:List ah)(hc:HI lh cv cs)(h3:aa fr 3=dT)(O:aa fr 15=cv)(U:aa fr 17= qi (k:Int))(V:aa fr 18= qi (if b=true then 1 else 0)):
  ∃f' Y,DC pE 111 (IM (dj bG)) ⟨fr,lh,s⟩=some (.nrm,⟨f',Y,s⟩)∧(∃j g,(j=77∨j=86)∧aa f' 19= .isl .L j g 0 (d.length+1) 2∧ab Y j=⟨g,.cells (iv (d++ [((f:Int),b)])) 0 false⟩)∧ ∀j,j≠77→j≠86→ab Y j=ab lh j:=by
 have K:iv (d++ [((f:Int),b)])=iv d++ [qi (f:Int),.b b]:=by rw[Ht];rfl
 have Og:repl [qi 0,.b false] 1= [qi 0,.b false]:=rfl
 have W:(d.length+1)*16≤roomy:=by unfold roomy;omega
 have X:d.length*16≤roomy:=by unfold roomy;omega
 have r1:16≤roomy:=by unfold roomy;omega
 have r:=gY d
 have Cd:(ints (cs.map Int.ofNat))[k]? =some (qi (f:Int)):=by
  subst hf
  simp[ints,hk]
 have DM:k+1≤cs.length:=hk
 rcases hc with hc|hc
 ·have D:=fun kk=>hc.ia (sz:=1) (k:=k) (kk:=kk) (by rw[eu,List.length_map];omega) hk
  have Z:(ints (cs.map Int.ofNat)).drop (k*1)= qi (f:Int)::(ints (cs.map Int.ofNat)).drop (k+1):=by
   rw[Nat.mul_one,List.drop_eq_getElem_cons (by simpa[ints]using hk)]
   simp[ints,hf]
  rw[Z]at D
  rcases hd with⟨rfl,rfl⟩|⟨h0,rfl⟩
  ·have I:Ck lh 77 2 16 .nilsl (0,[])=some (.nilsl,lh):=rfl
   cases b
   all_goals
    simp(maxDischargeDepth:=6) only[qA,bg,fS,seval,aH,dj,IM,bG,h3,O,U,V,D,Og,abH,I,appW,r1]
    refine⟨_,_,rfl,⟨86,(ab lh 86).g+1,.inr rfl, ?_, ?_⟩,fun j h1 h2=> ?_⟩
    ·simp only[qA,seval]
    ·simp only[qA,seval];rfl
    ·rw[bq _ _ h2]
  ·obtain⟨m,hm⟩: ∃m,d.length=m+1:=⟨d.length-1,by have:=List.length_pos_iff.2 h0;omega⟩
   rw[hm]at h3 r W X ⊢
   have hle:0<(m+1):=zV
   cases b
   all_goals
    simp(maxDischargeDepth:=6) only[qA,bg,fS,seval,aH,dj,IM,bG,h3,O,U,V,D,Og,appW,r,W,X]
    refine⟨_,_,rfl,⟨77,(ab lh 77).g+1+1,.inl rfl, ?_, ?_⟩,fun j h1 h2=> ?_⟩
    ·simp only[qA,seval]
    ·simp only[qA,seval];rw[K]
    ·simp only[qA,seval,h1]
 ·rcases hc with⟨h1,_,_⟩|⟨g2,wm,rfl,o48,aO0,_⟩
  ·omega
  rcases hd with⟨rfl,rfl⟩|⟨h0,rfl⟩
  ·have I:Ck lh 77 2 16 .nilsl (0,[])=some (.nilsl,lh):=rfl
   cases b
   all_goals
    simp(maxDischargeDepth:=6) only[qA,bg,fS,seval,aH,dj,IM,bG,h3,O,U,V,o48,Cd,hk,Og,abH,I,appW,r1]
    refine⟨_,_,rfl,⟨86,(ab lh 86).g+1,.inr rfl, ?_, ?_⟩,fun j h1 h2=> ?_⟩
    ·simp only[qA,seval]
    ·simp only[qA,seval];rfl
    ·rw[bq _ _ h2]
  ·obtain⟨m,hm⟩: ∃m,d.length=m+1:=⟨d.length-1,by have:=List.length_pos_iff.2 h0;omega⟩
   rw[hm]at h3 r W X ⊢
   have hle:0<(m+1):=zV
   cases b
   all_goals
    simp(maxDischargeDepth:=6) only[qA,bg,CC,fS,seval,aH,dj,IM,bG,h3,O,U,V,o48,Cd,hk,Og,appW,r,W,X]
    refine⟨_,_,rfl,⟨77,(ab lh 77).g+1+1,.inl rfl, ?_, ?_⟩,fun j h1 h2=> ?_⟩
    ·simp only[qA,seval]
    ·simp only[qA,seval];rw[K]
    ·simp only[qA,seval,h1]
def LgQ(g:Lg)(c:List T):Prop:= ∃v,c=Eh g v∧LgT g v
theorem LgQ.len(g:Lg)(c:List T)(h:LgQ g c):c.length=7:=by obtain⟨v,rfl,_⟩:=h;rfl
def Es(s:List ah)(r:T)(out:List Lg):Prop:=(r= .nilsl∧out= []∧s= [])∨ ∃g cs,r= .isl .S 0 g 0 out.length 7∧s= [⟨g,.cells cs 0 false⟩]∧aD LgQ out cs
section
variable(t:Tt)(c:Ct)(zT aT fT a7 a8 a9 aw aA az:T)(hT:jV t zT aT fT)(hC:kR c a7 a8 a9 aw aA az)(hA:CY c)(hL: ∀f∈t.fl,f.nu.length≤gJ)(hK:ee t c=0)
include hT hC hA hL hK
def ex2(x:List (Int×Bool))(hx:cL c t.fl x=0)(j g:Nat)(hj:j=77∨j=86)(out:List Lg)(hb:out.length≤1000000000)(lv:T)(fr:Fr)(lh:aE ah)(s:List ah)(h2:aa fr 2=lv)(W:aa fr 7= .ptr .L 7 1 0)(X:aa fr 8= .ptr .L 8 1 0)(Y:aa fr 19= .isl .L j g 0 x.length 2)(Z:ab lh 7=⟨1,.cells [zT,aT,fT] 0 true⟩)(o8:ab lh 8=⟨1,.cells (aO c a7 a8 a9 aw aA az) 0 true⟩)(K:ab lh j=⟨g,.cells (iv x) 0 false⟩)(hE:Es s lv out):
  ∃f' l' s',DC pE 111 (IM (Mu (dj bG))) ⟨fr,lh,s⟩=some (.nrm,⟨f',l',s'⟩)∧Es s' (aa f' 2) (out++if jy t c x=true then [cF t c x]else [])∧(∃wm,ab l' j=⟨g,.cells (iv x) wm false⟩)∧ ∀i,i≠20→i≠j→ab l' i=ab lh i:=by
 obtain⟨x1,x6,_,_⟩:=dM hx
 have hcl:=gY x
 have hDu:kK x (.sl (iv x) x.length false):=kK.of (.inr ⟨_,rfl⟩)
 obtain⟨v,e1,e2⟩:=ahr t c zT aT fT a7 a8 a9 aw aA az hT hC hA hL x _ hDu zV
 have hz:=Aj t c zT aT fT a7 a8 a9 aw aA az hT hC
 unfold T6 apx at e1 e2
 rw[if_neg (by simp[hK]),if_neg (by simp[hx])]at e1 e2
 have hv:=e2.froz1
 have hvc:=e2.cells
 have r:x.length*2≤(iv x).length:=zV
 have D:(iv x).take (x.length*2)=iv x:=List.take_of_length_le zV
 have j7: ¬7=j:=zV
 have j8: ¬8=j:=zV
 have I: ¬20=j:=zV
 have Uo: ¬j=20:=zV
 have Og:repl [T.nilsl,qi 0,qi 0,.s [],.s [],qi 0,qi 0] 1= [T.nilsl,qi 0,qi 0,.s [],.s [],qi 0,qi 0]:=rfl
 unfold aO at*
 have r1:88≤roomy:=by unfold roomy;omega
 cases ho:jy t c x
 ·rw[ho]at e1 e2
  unfold Eh at e1
  simp only[Bool.false_eq_true,if_false]at e1
  cases O:scalar (T.tup [T.agg [v,qi T5.rp,qi T5.rl,T.s T5.fr,T.s T5.to,qi T5.co,qi T5.cr],qi 15])
  all_goals
   simp(maxDischargeDepth:=6) only[qA,seval,dj,IM,Mu,bG,W,X,Y,Z,o8,K,hz,e1,am6,r,D,O,I]
   refine⟨_,_,_,rfl, ?_, ?_,fun i U V=> ?_⟩
   ·simp(maxDischargeDepth:=6) only[qA,seval,h2];exact hE
   ·first|(refine⟨(iv x).length, ?_⟩;simp(maxDischargeDepth:=6) only[qA,seval,Uo];done)|(refine⟨0, ?_⟩;simp(maxDischargeDepth:=6) only[qA,seval,Uo,K];done)
   ·simp(maxDischargeDepth:=6) only[qA,seval,U,V]
 ·rw[ho]at e1 e2
  unfold Eh at e1
  simp only[if_true]at e1 e2
  rcases hE with⟨rfl,rfl,rfl⟩|⟨g2,cs,rfl,rfl,b1⟩
  ·cases O:scalar (T.tup [T.agg [v,qi (cF t c x).rp,qi (cF t c x).rl,T.s (cF t c x).fr,T.s (cF t c x).to,qi (cF t c x).co,qi (cF t c x).cr],qi 0])
   all_goals
    simp(maxDischargeDepth:=6) only[qA,eO,seval,dj,IM,Mu,bG,h2,W,X,Y,Z,o8,K,hz,e1,am6,r,D,hv,O,I,Og,cO,be,cR,dn,r1]
    refine⟨_,_,_,rfl, ?_, ?_,fun i U V=> ?_⟩
    ·simp(maxDischargeDepth:=6) only[qA,seval]
     exact .inr ⟨1,_,rfl,rfl,aD.one ⟨v,rfl,e2⟩⟩
    ·first|(refine⟨(iv x).length, ?_⟩;simp(maxDischargeDepth:=6) only[qA,seval,Uo];done)|(refine⟨0, ?_⟩;simp(maxDischargeDepth:=6) only[qA,seval,Uo,K];done)
    ·simp(maxDischargeDepth:=6) only[qA,seval,U,V]
  ·have aO3:=b1.len LgQ.len
   have r2:(out.length+1)*88≤roomy:=by unfold roomy;omega
   have hcs:out.length*7=cs.length:=zV
   cases O:scalar (T.tup [T.agg [v,qi (cF t c x).rp,qi (cF t c x).rl,T.s (cF t c x).fr,T.s (cF t c x).to,qi (cF t c x).co,qi (cF t c x).cr],qi 0])
   all_goals
    simp(maxDischargeDepth:=6) only[qA,eO,seval,dj,IM,Mu,bG,h2,W,X,Y,Z,o8,K,hz,e1,am6,r,D,hv,O,I,Og,cO,be,dJ,ew,cE,r2,hcs]
    refine⟨_,_,_,rfl, ?_, ?_,fun i U V=> ?_⟩
    ·simp(maxDischargeDepth:=6) only[qA,seval]
     exact .inr ⟨g2+1,_,by rw[List.length_append];rfl,rfl,aD.append b1 (aD.one ⟨v,rfl,e2⟩)⟩
    ·first|(refine⟨(iv x).length, ?_⟩;simp(maxDischargeDepth:=6) only[qA,seval,Uo];done)|(refine⟨0, ?_⟩;simp(maxDischargeDepth:=6) only[qA,seval,Uo,K];done)
    ·simp(maxDischargeDepth:=6) only[qA,seval,U,V]
end
section
variable(t:Tt)(c:Ct)(zT aT fT a7 a8 a9 aw aA az:T)(hT:jV t zT aT fT)(hC:kR c a7 a8 a9 aw aA az)(mT nT:T)(hm:froz mT=true)(hn:froz nT=true)
include hT hC hm hn
def ex3(x:List (Int×Bool))(j g W:Nat)(hj:j=77∨j=86)(out D:List Lg)(I:T)(H h H':Nat)(hH:(H:Int)-(h:Int)=(H':Int))(X:H≤6∧h≤1)(fr:Fr)(lh:aE ah)(s:List ah)(h2:aa fr 2=I)(h4:aa fr 4=mT)(h5:aa fr 5=nT)(h6:aa fr 6= qi (H:Int))(Y:aa fr 7= .ptr .L 7 1 0)(Z:aa fr 8= .ptr .L 8 1 0)(ft:aa fr 18= qi (h:Int))(uu:aa fr 19= .isl .L j g 0 x.length 2)(o7:ab lh 7=⟨1,.cells [zT,aT,fT] 0 true⟩)(o8:ab lh 8=⟨1,.cells (aO c a7 a8 a9 aw aA az) 0 true⟩)(oj:ab lh j=⟨g,.cells (iv x) W false⟩)(hE:Es s I out)
  (IH: ∃v r,ae pE 30 [.agg [zT,aT,fT],.agg (aO c a7 a8 a9 aw aA az),I,.sl (iv x) x.length false,mT,nT,qi (H':Int)] s=some (v,r)∧Es r v D):
  ∃U V r,DC pE 111 (Mu (Mu (dj bG))) ⟨fr,lh,s⟩=some (.nrm,⟨U,V,r⟩)∧Es r (aa U 2) D∧ ∀i,i≠j→ab V i=ab lh i:=by
 have hz:=Aj t c zT aT fT a7 a8 a9 aw aA az hT hC
 obtain⟨v,r,e1,e2⟩:=IH
 have hcl:=gY x
 have K:x.length*2≤(iv x).length:=zV
 have O:(iv x).take (x.length*2)=iv x:=List.take_of_length_le zV
 have hw:wr .i64 ((H:Int)-(h:Int))=(H':Int):=by rw[aZ zV,hH]
 have UW:fzV lh s true I=some (I,[]):=by
  rcases hE with⟨rfl,_,_⟩|⟨g2,cs,rfl,_,_⟩ <;> rfl
 unfold aO at*
 simp(maxDischargeDepth:=6) only[qA,wD,seval,dj,Mu,bG,h2,h4,h5,h6,Y,Z,ft,uu,o7,o8,oj,hz,e1,aF0,K,O,hm,hn,hw,UW]
 exact⟨_,_,_,rfl,by simp only[qA,seval];exact e2,fun i hi=>by rw[bq _ _ hi]⟩
end
theorem Lx(c:Ct)(fl:List Fl): ∀(d:List (Int×Bool)) (k l:Int×Bool),kg c fl (d++ [k,l])=(kg c fl (d++ [k])&&nv c fl k.1 l.1)
 | [],k,l=>by simp[kg]
 | [a],k,l=>by simp[kg]
 |a::b::r,k,l=>by
  have:=Lx c fl (b::r) k l
  simp only[List.cons_append]at this ⊢
  rw[kg,kg,this,Bool.and_assoc]
theorem abJ(c:Ct)(fl:List Fl)(i:Int)(f:Nat):nv c fl i (f:Int)=jn c fl i.toNat f:=by
 unfold nv jn
 rw[Int.toNat_natCast]
 cases fl[i.toNat]? <;> cases fl[f]? <;> rfl
def qE(N:Nat)(J:Nat→Nat→Bool)(d:List (Int×Bool)):List Nat:=match d.getLast? with
 |none=>List.range N
 |some k=>kN N J k.1.toNat
def Uq(N:Nat)(J:Nat→Nat→Bool)(d:List (Int×Bool))(f:Nat)(b:Bool):qE N J (d++ [((f:Int),b)])=kN N J f:=by
 unfold qE;rw[List.getLast?_append];simp
def QN(N:Nat)(J:Nat→Nat→Bool)(d:List (Int×Bool)){f:Nat}(h:f∈qE N J d):f<N:=by
 unfold qE at h
 split at h
 ·exact List.mem_range.1 h
 ·exact List.mem_range.1 (List.mem_filter.1 h).1
def abK(N:Nat)(J:Nat→Nat→Bool)(d:List (Int×Bool)):(qE N J d).length≤N:=by
 unfold qE
 split
 ·rw[List.length_range];exact Nat.le_refl _
 ·exact HC _ _
def Ur(c:Ct)(fl:List Fl)(d:List (Int×Bool))(f:Nat)(b:Bool)(hd:d= []∨cL c fl d=0)(U:d.length≤5)(I:f∈qE fl.length (jn c fl) d):cL c fl (d++ [((f:Int),b)])=0:=by
 have K:=QN _ _ _ I
 have r:lQ fl.length (f:Int)=true:=by unfold lQ;simpa using K
 have D:(d++ [((f:Int),b)]).all (fun k=>lQ fl.length k.1)=true∧kg c fl (d++ [((f:Int),b)])=true:=by
  rcases hd with rfl|hd
  ·exact⟨by simpa using r,by simp[kg]⟩
  ·obtain⟨h1,h2,h3,h4⟩:=dM hd
   obtain⟨e,k,rfl⟩: ∃e k,d=e++ [k]:=⟨d.dropLast,d.getLast (by intro h;rw[h]at h1;simp at h1),(List.dropLast_concat_getLast _).symm⟩
   refine⟨?_, ?_⟩
   ·rw[List.all_append,Bool.and_eq_true]
    exact⟨List.all_eq_true.2 h3,by simpa using r⟩
   ·rw[List.append_assoc]
    show kg c fl (e++ [k,((f:Int),b)])=true
    rw[Lx,h4,Bool.true_and,abJ]
    unfold qE at I
    rw[List.getLast?_append]at I
    have O:f∈kN fl.length (jn c fl) k.1.toNat:=by simpa using I
    exact(List.mem_filter.1 O).2
 unfold cL
 rw[List.length_append,List.length_singleton,if_neg zV,if_neg zV,if_pos D.1,if_pos D.2]
section
variable(t:Tt)(c:Ct)(zT aT fT a7 a8 a9 aw aA az:T)(hT:jV t zT aT fT)(hC:kR c a7 a8 a9 aw aA az)(hA:CY c)(hL: ∀f∈t.fl,f.nu.length≤gJ)(hK:ee t c=0)(hN:t.fl.length≤1000)(mT nT:T)(hm:froz mT=true)(hn:froz nT=true)(cp:Nat→Bool)
 (jf: ∀f,f<t.fl.length→ ∃q,∀kk,iaV mT (.i kk (f:Int)) 1=some (.vp (.b (cp f)::q))) (PF:lenI mT=some (qi (t.fl.length:Int)))
 (iK: ∀f,f<t.fl.length→ ∃q,∀kk,iaV nT (.i kk (f:Int)) 1=some (.vp (qL (kN t.fl.length (jn c t.fl) f)::q)))
def ExP(t:Tt)(c:Ct)(zT aT fT a7 a8 a9 aw aA az mT nT:T)(cp:Nat→Bool)(n:Nat):Prop:=
 ∀(d:List (Int×Bool)) (r:T) (H:Nat) (s:List ah) (D:T) (out:List Lg),d.length+n=6→DtV d r→(d= []∨cL c t.fl d=0)→H≤6→Es s D out→out.length+((qE t.fl.length (jn c t.fl) d).flatMap fun f=>eI t.fl.length (jn c t.fl) cp (jy t c) (cF t c) n d f H).length≤1000000000→
  ∃v I,ae pE 30 [.agg [zT,aT,fT],.agg (aO c a7 a8 a9 aw aA az),D,r,mT,nT,qi (H:Int)] s=some (v,I)∧Es I v (out++(qE t.fl.length (jn c t.fl) d).flatMap fun f=>eI t.fl.length (jn c t.fl) cp (jy t c) (cF t c) n d f H)
include hT hC hA hL hK hN hm hn
theorem aCz(n:Nat)(IH:ExP t c zT aT fT a7 a8 a9 aw aA az mT nT cp n)(d:List (Int×Bool))(X:T)(Mv:DtV d X)(hd:d= []∨cL c t.fl d=0)(QJ:d.length+(n+1)=6)(f:Nat)(b:Bool)(hf:f∈qE t.fl.length (jn c t.fl) d)(cs:List Nat)(k:Nat)(hk:k<cs.length)(Cf:cs[k]=f)(cv:T)(H H':Nat)(Y:H≤6)(hH:H=H'+if b=true then 1 else 0)(Z:T)(out:List Lg)(hb:out.length+(tc t.fl.length (jn c t.fl) (jy t c) (cF t c) (eI t.fl.length (jn c t.fl) cp (jy t c) (cF t c) n) (d++ [((f:Int),b)]) f H').length≤1000000000)
  (fr:Fr) (lh:aE ah) (s:List ah) (hc:HI lh cv cs) (h2:aa fr 2=Z) (h3:aa fr 3=X) (h4:aa fr 4=mT) (h5:aa fr 5=nT) (h6:aa fr 6= qi (H:Int)) (h7:aa fr 7= .ptr .L 7 1 0) (h8:aa fr 8= .ptr .L 8 1 0) (ll:aa fr 15=cv) (mG:aa fr 17= qi (k:Int)) (ft:aa fr 18= qi (if b=true then 1 else 0)) (o7:ab lh 7=⟨1,.cells [zT,aT,fT] 0 true⟩) (o8:ab lh 8=⟨1,.cells (aO c a7 a8 a9 aw aA az) 0 true⟩) (hE:Es s Z out):
  ∃f' l' s',DC pE 111 (dj bG) ⟨fr,lh,s⟩=some (.nrm,⟨f',l',s'⟩)∧Es s' (aa f' 2) (out++tc t.fl.length (jn c t.fl) (jy t c) (cF t c) (eI t.fl.length (jn c t.fl) cp (jy t c) (cF t c) n) (d++ [((f:Int),b)]) f H')∧ ∀i,i≠77→i≠86→i≠20→ab l' i=ab lh i:=by
 have _:=hN
 have Vb:=Ur c t.fl d f b hd zV hf
 have K:=Uq t.fl.length (jn c t.fl) d f b
 have hxl:(d++ [((f:Int),b)]).length=d.length+1:=by rw[List.length_append];rfl
 have hxn:d++ [((f:Int),b)]≠ []:=yv
 obtain⟨f1,l1,e1,⟨j,g,D,r,kj⟩,V⟩:=ex1 d X Mv zV f b cs k hk Cf cv fr lh s hc h3 ll mG ft
 rw[←hxl]at r
 generalize d++ [((f:Int),b)]=x at*
 have W:=fun j D=>fy e1 j D
 unfold tc at hb ⊢
 rw[List.length_append]at hb
 obtain⟨f2,l2,s2,e2,O,⟨wm,kj2⟩,k2⟩:=ex2 t c zT aT fT a7 a8 a9 aw aA az hT hC hA hL hK x Vb j g D out zV Z f1 l1 s ((W 2 zz).trans h2) ((W 7 zz).trans h7) ((W 8 zz).trans h8) r ((V 7 zz zz).trans o7) ((V 8 zz zz).trans o8) kj hE
 have p2:=fun j D=>fy e2 j D
 have I: ∀j v,(bO (IM (dj bG))).contains j=false→(bO (IM (Mu (dj bG)))).contains j=false→aa fr j=v→aa f2 j=v:=fun j v a1 a2 e=>(p2 j a2).trans ((W j a1).trans e)
 have to: ∀i v,i≠77→i≠86→i≠20→ab lh i=v→ab l2 i=v:=fun i v a1 a2 a3 e=>(k2 i a3 zV).trans ((V i a1 a2).trans e)
 obtain⟨v3,s3,d3,U⟩:=IH x (.sl (iv x) x.length false) H' s2 _ _ zV (.inr ⟨hxn,rfl⟩) (.inr Vb) zV O (by rw[K,List.length_append];omega)
 rw[K,List.append_assoc]at U
 obtain⟨f3,l3,s4,e3,hE4,k3⟩:=ex3 t c zT aT fT a7 a8 a9 aw aA az hT hC mT nT hm hn x j g wm D _ _ _ H (if b=true then 1 else 0) H' (by rw[hH];cases b <;> simp) ⟨Y,by cases b <;> simp⟩ f2 l2 s2 rfl (I 4 _ zz zz h4) (I 5 _ zz zz h5) (I 6 _ zz zz h6) (I 7 _ zz zz h7) (I 8 _ zz zz h8) (by rw[I 18 _ zz zz ft];cases b <;> rfl) ((p2 19 zz).trans r) (to 7 _ zz zz zz o7) (to 8 _ zz zz zz o8) kj2 O ⟨v3,s3,d3,U⟩
 refine⟨f3,l3,s4, ?_,hE4,fun i i1 i2 i3=>(k3 i zV).trans ((k2 i i3 zV).trans (V i i1 i2))⟩
 rw[Un,GL,e1,mY,GL]
 have e2':DC pE 111 (.seq (IM (IM (Mu (dj bG)))) (Mu (IM (Mu (dj bG))))) ⟨f1,l1,s⟩=some (.nrm,⟨f2,l2,s2⟩):=e2
 rw[e2',mY,e3]
include jf
theorem aCA(n:Nat)(IH:ExP t c zT aT fT a7 a8 a9 aw aA az mT nT cp n)(d:List (Int×Bool))(dT:T)(Mv:DtV d dT)(hd:d= []∨cL c t.fl d=0)(QJ:d.length+(n+1)=6)(f:Nat)(hf:f∈qE t.fl.length (jn c t.fl) d)(cs:List Nat)(k:Nat)(hk:k<cs.length)(Cf:cs[k]=f)(cv:T)(H:Nat)(hH6:H≤6)(out:List Lg)(hb:out.length+(eI t.fl.length (jn c t.fl) cp (jy t c) (cF t c) (n+1) d f H).length≤1000000000)
  (fr:Fr) (lh:aE ah) (s:List ah) (hc:HI lh cv cs) (h3:aa fr 3=dT) (h4:aa fr 4=mT) (h5:aa fr 5=nT) (h6:aa fr 6= qi (H:Int)) (h7:aa fr 7= .ptr .L 7 1 0) (h8:aa fr 8= .ptr .L 8 1 0) (ll:aa fr 15=cv) (mG:aa fr 17= qi (k:Int)) (ft:aa fr 18= qi 0) (o7:ab lh 7=⟨1,.cells [zT,aT,fT] 0 true⟩) (o8:ab lh 8=⟨1,.cells (aO c a7 a8 a9 aw aA az) 0 true⟩) (hE:Es s (aa fr 2) out):
  Lp pE 111 bG fr lh s (.ext 4) fun V W s'=>Es s' (aa V 2) (out++eI t.fl.length (jn c t.fl) cp (jy t c) (cF t c) (n+1) d f H)∧ ∀i,i≠77→i≠86→i≠20→ab W i=ab lh i:=by
 obtain⟨q,I⟩:=jf f (QN _ _ _ hf)
 have ht:=fun b H' hH=>aCz t c zT aT fT a7 a8 a9 aw aA az hT hC hA hL hK hN mT nT hm hn cp n IH d dT Mv hd QJ f b hf cs k hk Cf cv H H' hH6 hH
 have hwt:=Um
 have hwr: ∀j,(bO (dj bG)).contains j=false→ ∀(fr bL:Fr) lh s W s',DC pE 111 (dj bG) ⟨fr,lh,s⟩=some (.nrm,⟨bL,W,s'⟩)→aa bL j=aa fr j:=fun j hj fr bL lh s W s' e=>fy e j hj
 have apN:=hwr 18 zz
 refine bK I5 (fun k V W s'=>aa V 18= qi (k:Int)∧Es s' (aa V 2) (out++if k=0 then []else if k=1 then(if cp f=true then tc t.fl.length (jn c t.fl) (jy t c) (cF t c) (eI t.fl.length (jn c t.fl) cp (jy t c) (cF t c) n) (d++ [((f:Int),false)]) f H else [])else eI t.fl.length (jn c t.fl) cp (jy t c) (cF t c) (n+1) d f H)∧ ∀i,i≠77→i≠86→i≠20→ab W i=ab lh i) 2 ⟨ft,by simpa using hE,fun _ _ _ _=>rfl⟩ ?_ ?_
 ·rintro h V W s' hh r ⟨ui,Oi,O⟩
  have p7:=(O 7 zz zz zz).trans o7
  have p8:=(O 8 zz zz zz).trans o8
  have Y:HI W cv cs:=hc.imp id fun h=>h.congr (O 48 zz zz zz)
  have K:(∃q2,∀kk,iaV cv (.i kk (k:Int)) 1=some (.vp (qi (f:Int)::q2)))∨ ∃g wm n cc,cv= .isl .L 48 g 0 n 1∧k<n∧ab W 48=⟨g,.cells cc wm false⟩∧cc[k]? =some (qi (f:Int))∧k+1≤cc.length:=by
   have Cd:(ints (cs.map Int.ofNat))[k]? =some (qi (f:Int)):=by
    subst Cf
    simp[ints,hk]
   rcases Y with h|⟨h,_,_⟩|⟨g,wm,h1,h2,h3,h4⟩
   ·refine .inl ⟨(ints (cs.map Int.ofNat)).drop (k+1),fun kk=> ?_⟩
    rw[h.ia (sz:=1) (k:=k) (kk:=kk) (by rw[eu,List.length_map];omega) hk,Nat.mul_one,List.drop_eq_getElem_cons (by simpa[ints]using hk)]
    simp[ints,Cf]
   ·omega
   ·exact .inr ⟨g,wm,_,_,h1,hk,h2,Cd,by rw[h3];omega⟩
  have AV:h=0∨h=1:=zV
  rcases AV with rfl|rfl
  ·have Ly:aa V 18= qi 0:=ui
   have Z: ¬(H:Int)<0:=zV
   rw[if_pos rfl,List.append_nil]at Oi
   rw[if_neg zz,if_pos rfl]
   rw[eI,List.length_append]at hb
   rw[hwt]
   cases hi:cp f
   ·rw[hi]at I
    generalize dj bG=X at*
    rcases K with⟨q2,K⟩|⟨g9,wm9,n9,cc9,rfl,hk9,o48,hcc,hcl⟩
    ·simp(maxDischargeDepth:=6) only[qA,seval,gd,bG,ux,r,h4,ll,mG,Ly,I,K]
     exact⟨Oi,O⟩
    ·simp(maxDischargeDepth:=6) only[qA,seval,gd,bG,ux,r,h4,ll,mG,Ly,I,hk9,o48,hcc]
     exact⟨Oi,O⟩
   ·rw[hi]at I
    rw[hi,if_pos rfl]at hb
    have ht0:=ht false H yv (aa V 2) out zV
    generalize dj bG=X at*
    rcases K with⟨q2,K⟩|⟨g9,wm9,n9,cc9,rfl,hk9,o48,hcc,hcl⟩
    ·skip
     simp(maxDischargeDepth:=6) only[qA,seval,bG,ux,r,h4,h6,ll,mG,Ly,I,Z,K]
     generalize hD:DC pE 111 X _=D
     obtain⟨f2,l2,s2,rfl,⟨U,k2⟩,e2⟩:=abG hD (ht0 _ _ _ Y yk (by simp only[qA,seval,r,h3]) (by simp only[qA,seval,r,h4]) (by simp only[qA,seval,r,h5]) (by simp only[qA,seval,r,h6]) (by simp only[qA,seval,r,h7]) (by simp only[qA,seval,r,h8]) (by simp only[qA,seval,r,ll]) (by simp only[qA,seval,r,mG]) (by simp only[qA,seval,Ly]) p7 p8 Oi)
     have g2:=(apN _ _ _ _ _ _ e2).trans (show _=_ by simp only[qA,seval,Ly];rfl)
     simp(maxDischargeDepth:=6) only[qA,seval,gd,g2]
     exact⟨by simpa only[List.append_assoc]using U,fun i i1 i2 i3=>(k2 i i1 i2 i3).trans (O i i1 i2 i3)⟩
    ·skip
     simp(maxDischargeDepth:=6) only[qA,seval,bG,ux,r,h4,h6,ll,mG,Ly,I,Z,hk9,o48,hcc]
     generalize hD:DC pE 111 X _=D
     obtain⟨f2,l2,s2,rfl,⟨U,k2⟩,e2⟩:=abG hD (ht0 _ _ _ Y yk (by simp only[qA,seval,r,h3]) (by simp only[qA,seval,r,h4]) (by simp only[qA,seval,r,h5]) (by simp only[qA,seval,r,h6]) (by simp only[qA,seval,r,h7]) (by simp only[qA,seval,r,h8]) (by simp only[qA,seval,r,ll]) (by simp only[qA,seval,r,mG]) (by simp only[qA,seval,Ly]) p7 p8 Oi)
     have g2:=(apN _ _ _ _ _ _ e2).trans (show _=_ by simp only[qA,seval,Ly];rfl)
     simp(maxDischargeDepth:=6) only[qA,seval,gd,g2]
     exact⟨by simpa only[List.append_assoc]using U,fun i i1 i2 i3=>(k2 i i1 i2 i3).trans (O i i1 i2 i3)⟩
  ·have ahD:aa V 18= qi 1:=ui
   rw[if_neg zz,if_pos rfl]at Oi
   rw[if_neg zz,if_neg zz]
   rw[hwt]
   rw[eI]at hb ⊢
   generalize hAA:(if cp f=true then tc t.fl.length (jn c t.fl) (jy t c) (cF t c) (eI t.fl.length (jn c t.fl) cp (jy t c) (cF t c) n) (d++ [((f:Int),false)]) f H else [])=A at*
   rw[List.length_append]at hb
   by_cases hz:H=0
   ·subst hz
    have El:aa fr 6= qi 0:=h6
    generalize dj bG=X at*
    simp(maxDischargeDepth:=6) only[qA,seval,gd,bG,ux,r,El,ahD]
    exact⟨by simpa using Oi,O⟩
   ·obtain⟨m,rfl⟩: ∃m,H=m+1:=⟨H-1,by omega⟩
    rw[if_neg hz]at hb ⊢
    rw[Nat.add_sub_cancel]at hb ⊢
    have Z: ¬((m+1:Nat):Int)<1:=zV
    have ht0:=ht true m yv (aa V 2) (out++A) (by rw[List.length_append];omega)
    generalize dj bG=X at*
    ·skip
     simp(maxDischargeDepth:=6) only[qA,seval,bG,ux,r,h6,ahD,Z]
     generalize hD:DC pE 111 X _=D
     obtain⟨f2,l2,s2,rfl,⟨U,k2⟩,e2⟩:=abG hD (ht0 _ _ _ Y yk (by simp only[qA,seval,r,h3]) (by simp only[qA,seval,r,h4]) (by simp only[qA,seval,r,h5]) (by simp only[qA,seval,r,h6]) (by simp only[qA,seval,r,h7]) (by simp only[qA,seval,r,h8]) (by simp only[qA,seval,r,ll]) (by simp only[qA,seval,r,mG]) (by simp only[qA,seval,ahD]) p7 p8 Oi)
     have g2:=(apN _ _ _ _ _ _ e2).trans (show _=_ by simp only[qA,seval,ahD];rfl)
     simp(maxDischargeDepth:=6) only[qA,seval,gd,g2]
     exact⟨by simpa only[List.append_assoc]using U,fun i i1 i2 i3=>(k2 i i1 i2 i3).trans (O i i1 i2 i3)⟩
 ·rintro V W s' r ⟨ui,Oi,O⟩
  have h2': ¬((2:Nat):Int)<2:=zz
  simp only[qA,seval,gd,bG,ui]
  exact⟨by simpa using Oi,O⟩
omit hT hC hA hL hK hN hm hn jf in
theorem HI.lenI{lh:aE ah}{cv:T}{cs:List Nat}(h:HI lh cv cs):lenI cv=some (qi (cs.length:Int)):=by
 rcases h with h|h
 ·exact h.lenI
 ·exact h.lenI
theorem apP(n:Nat)(IH:ExP t c zT aT fT a7 a8 a9 aw aA az mT nT cp n)(d:List (Int×Bool))(Y:T)(Mv:DtV d Y)(hd:d= []∨cL c t.fl d=0)(QJ:d.length+(n+1)=6)(cs:List Nat)(V:cs=qE t.fl.length (jn c t.fl) d)(cv:T)(H:Nat)(Z:H≤6)(out:List Lg)(hb:out.length+(cs.flatMap fun f=>eI t.fl.length (jn c t.fl) cp (jy t c) (cF t c) (n+1) d f H).length≤1000000000)
  (fr:Fr) (lh:aE ah) (s:List ah) (hc:HI lh cv cs) (h3:aa fr 3=Y) (h4:aa fr 4=mT) (h5:aa fr 5=nT) (h6:aa fr 6= qi (H:Int)) (h7:aa fr 7= .ptr .L 7 1 0) (h8:aa fr 8= .ptr .L 8 1 0) (ll:aa fr 15=cv) (mG:aa fr 17= qi 0) (o7:ab lh 7=⟨1,.cells [zT,aT,fT] 0 true⟩) (o8:ab lh 8=⟨1,.cells (aO c a7 a8 a9 aw aA az) 0 true⟩) (hE:Es s (aa fr 2) out):
  Lp pE 111 tI fr lh s (.ext 2) fun K O W=>Es W (aa K 2) (out++cs.flatMap fun f=>eI t.fl.length (jn c t.fl) cp (jy t c) (cF t c) (n+1) d f H):=by
 have hcl:cs.length≤1000:=by rw[V];exact Nat.le_trans (abK _ _ _) hN
 refine bK Bf (fun k K O W=>aa K 17= qi (k:Int)∧Es W (aa K 2) (out++(cs.take k).flatMap fun f=>eI t.fl.length (jn c t.fl) cp (jy t c) (cF t c) (n+1) d f H)∧ ∀i,i≠77→i≠86→i≠20→ab O i=ab lh i) cs.length ⟨mG,by simpa using hE,fun _ _ _ _=>rfl⟩ ?_ ?_
 ·rintro k K O W hk r ⟨DL,Oi,U⟩
  have hk':(k:Int)<cs.length:=zV
  have hw:=aF (k:=k) zV
  have p7:=(U 7 zz zz zz).trans o7
  have p8:=(U 8 zz zz zz).trans o8
  have I:HI O cv cs:=hc.imp id fun h=>h.congr (U 48 zz zz zz)
  have dL:=I.lenI
  have zX:(cs.take (k+1)).flatMap (fun f=>eI t.fl.length (jn c t.fl) cp (jy t c) (cF t c) (n+1) d f H)=(cs.take k).flatMap (fun f=>eI t.fl.length (jn c t.fl) cp (jy t c) (cF t c) (n+1) d f H)++eI t.fl.length (jn c t.fl) cp (jy t c) (cF t c) (n+1) d cs[k] H:=by
   rw[List.take_succ_eq_append_getElem hk,List.flatMap_append]
   simp
  have hle:(out++(cs.take k).flatMap fun f=>eI t.fl.length (jn c t.fl) cp (jy t c) (cF t c) (n+1) d f H).length+(eI t.fl.length (jn c t.fl) cp (jy t c) (cF t c) (n+1) d cs[k] H).length≤1000000000:=by
   have h1:(cs.flatMap fun f=>eI t.fl.length (jn c t.fl) cp (jy t c) (cF t c) (n+1) d f H).length=((cs.take (k+1)).flatMap fun f=>eI t.fl.length (jn c t.fl) cp (jy t c) (cF t c) (n+1) d f H).length+((cs.drop (k+1)).flatMap fun f=>eI t.fl.length (jn c t.fl) cp (jy t c) (cF t c) (n+1) d f H).length:=by
    rw[←List.length_append,←List.flatMap_append,List.take_append_drop]
   rw[zX,List.length_append]at h1
   rw[List.length_append]
   omega
  have X:=aCA t c zT aT fT a7 a8 a9 aw aA az hT hC hA hL hK hN mT nT hm hn cp jf n IH d Y Mv hd QJ cs[k] (by rw[←V];exact List.getElem_mem hk) cs k hk rfl cv H Z _ hle
  rw[List.append_assoc,←zX]at X
  simp(maxDischargeDepth:=6) only[qA,seval,tI,r,ll,DL,dL,hk']
  generalize hD:DC pE 111 (.loop bG) _=D
  obtain⟨f2,l2,s2,rfl,⟨hV2,k2⟩,fR⟩:=qK I5 hD (X _ _ _ I (by simp only[qA,seval,r,h3]) (by simp only[qA,seval,r,h4]) (by simp only[qA,seval,r,h5]) (by simp only[qA,seval,r,h6]) (by simp only[qA,seval,r,h7]) (by simp only[qA,seval,r,h8]) (by simp only[qA,seval,r,ll]) (by simp only[qA,seval,DL]) yk p7 p8 (by simp only[qA,seval];exact Oi))
  have g2:aa f2 17= qi (k:Int):=by rw[fR 17 zz];simp only[qA,seval,DL]
  simp(maxDischargeDepth:=6) only[qA,seval,gd,g2,hw]
  exact⟨hV2,fun i i1 i2 i3=>(k2 i i1 i2 i3).trans (U i i1 i2 i3)⟩
 ·rintro K O W r ⟨DL,Oi,U⟩
  have I:HI O cv cs:=hc.imp id fun h=>h.congr (U 48 zz zz zz)
  have dL:=I.lenI
  rw[List.take_length]at Oi
  simp only[qA,seval,gd,tI,r,ll,DL,dL,Int.lt_irrefl]
  exact Oi
omit hT hC hA hL hK hm hn jf in
theorem apQ(PF:lenI mT=some (qi (t.fl.length:Int)))(fr:Fr)(lh:aE ah)(s:List ah)(h4:aa fr 4=mT)(ll:aa fr 15= .nilsl)(lp:aa fr 16= qi 0):
  Lp pE 111 xG fr lh s (.ext 0) fun D r O=>O=s∧aW r (aa D 15) 48 1 (List.range t.fl.length).length (ints ((List.range t.fl.length).map Int.ofNat))∧ ∀i,i≠48→ab r i=ab lh i:=by
 refine bK I6 (fun k D r O=>aa D 16= qi (k:Int)∧O=s∧aW r (aa D 15) 48 1 k (ints ((List.range k).map Int.ofNat))∧ ∀i,i≠48→ab r i=ab lh i) t.fl.length ⟨lp,rfl,by rw[ll];exact aW.nil,fun _ _=>rfl⟩ ?_ ?_
 ·rintro k D r _ hk U ⟨AQ,rfl,I,V⟩
  have W:(k:Int)<t.fl.length:=zV
  have hw:=aF (k:=k) zV
  have X:=fun(aN:aE ah) (aR:List ah) (e:ab aN 48=ab r 48)=>de (sh:=aR) (I.congr e) [qi (k:Int)] rfl (bytes:=8) (by unfold roomy;omega) true
  have Y:=I.notS
  obtain⟨v15,K⟩: ∃v,aa D 15=v:=⟨_,rfl⟩
  rw[K]at I X Y
  have zX:ints ((List.range (k+1)).map Int.ofNat)=ints ((List.range k).map Int.ofNat)++ [qi (k:Int)]:=by rw[List.range_succ];simp[ints]
  rw[zX]
  simp(maxDischargeDepth:=6) only[qA,seval,gd,xG,U,h4,AQ,PF,W,hw,K,X,Y,repl]
  exact fun j Z=>((X r _ rfl).2.2 j Z).trans (V j Z)
 ·rintro D r _ U ⟨AQ,rfl,I,V⟩
  simp only[qA,seval,gd,xG,U,h4,AQ,PF,Int.lt_irrefl]
  exact⟨by rw[List.length_range];exact I,V⟩
include PF iK
theorem abL: ∀n,ExP t c zT aT fT a7 a8 a9 aw aA az mT nT cp n
 |0=>by
  intro d dT H s K out QJ Mv hd hH U hb
  have hz:=Aj t c zT aT fT a7 a8 a9 aw aA az hT hC
  have dL:lenI dT=some (qi 6):=by
   rcases Mv with⟨rfl,rfl⟩|⟨_,rfl⟩
   ·simp at QJ
   ·have:d.length=6:=zV
    rw[this];rfl
  have W:((qE t.fl.length (jn c t.fl) d).flatMap fun f=>eI t.fl.length (jn c t.fl) cp (jy t c) (cF t c) 0 d f H)= []:=by
   simp[eI]
  have UW: ∀lh,fzV lh s true K=some (K,[]):=fun lh=>by
   rcases U with⟨rfl,_,_⟩|⟨g2,cs,rfl,_,_⟩ <;> rfl
  rw[W,List.append_nil]
  unfold aO at*
  rw[au Sv (by simp[c30])]
  simp(maxDischargeDepth:=6) only[qA,seval,c30,dL,UW]
  exact⟨_,_,rfl,U⟩
 |n+1=>by
  have IH:=abL n
  intro d dT H s K out QJ Mv hd hH U hb
  have hz:=Aj t c zT aT fT a7 a8 a9 aw aA az hT hC
  have TQ:=fun cs X cv=>apP t c zT aT fT a7 a8 a9 aw aA az hT hC hA hL hK hN mT nT hm hn cp jf n IH d dT Mv hd QJ cs X cv H hH out (by rw[X];exact hb)
  have UW: ∀lh s K out,Es s K out→fzV lh s true K=some (K,[]):=fun lh s K out U=>by
   rcases U with⟨rfl,_,_⟩|⟨g2,cs,rfl,_,_⟩ <;> rfl
  generalize Y:qE t.fl.length (jn c t.fl) d=can at*
  rcases Mv with⟨rfl,rfl⟩|⟨h0,rfl⟩
  ·have hL3:=fun fr lh s=>apQ t hN mT PF fr lh s
   unfold aO at*
   rw[au Sv (by simp[c30])]
   simp(maxDischargeDepth:=6) only[qA,seval,c30]
   generalize V:DC pE 111 (.loop xG) _=D
   obtain⟨O,l3,s3,rfl,⟨rfl,hO,k3⟩,Aq⟩:=qK I6 V (hL3 _ _ _ yk yk yk)
   have g2:aa O 2=K:=by rw[Aq 2 zz];simp only[qA,seval]
   have g3:aa O 3= .nilsl:=by rw[Aq 3 zz];simp only[qA,seval]
   have g4:aa O 4=mT:=by rw[Aq 4 zz];simp only[qA,seval]
   have g5:aa O 5=nT:=by rw[Aq 5 zz];simp only[qA,seval]
   have g6:aa O 6= qi (H:Int):=by rw[Aq 6 zz];simp only[qA,seval]
   have g7:aa O 7= .ptr .L 7 1 0:=by rw[Aq 7 zz];simp only[qA,seval]
   have g8:aa O 8= .ptr .L 8 1 0:=by rw[Aq 8 zz];simp only[qA,seval]
   have q7:ab l3 7=⟨1,.cells [zT,aT,fT] 0 true⟩:=by rw[k3 7 zz];simp only[qA,seval]
   have q8:ab l3 8=⟨1,.cells [qi c.rp,qi c.rl,qi c.cn,qi c.st,qi c.ly,qi c.nf,qi c.nt,a7,a8,a9,aw,aA,az,qi c.gu] 0 true⟩:=by rw[k3 8 zz];simp only[qA,seval]
   have qn:can=List.range t.fl.length:=by rw[←Y];rfl
   clear Aq V
   simp(maxDischargeDepth:=6) only[qA,seval]
   generalize V:DC pE 111 (.loop tI) _=D
   obtain⟨f4,l4,s4,rfl,r,pr4⟩:=qK Bf V (TQ can rfl (aa O 15) _ _ _ (.inr (by rw[qn];exact hO)) (by simp only[qA,seval,g3]) (by simp only[qA,seval,g4]) (by simp only[qA,seval,g5]) (by simp only[qA,seval,g6]) (by simp only[qA,seval,g7]) (by simp only[qA,seval,g8]) yk yk q7 q8 (by simp only[qA,seval,g2];exact U))
   have I:=fun lh=>UW lh _ _ _ r
   obtain⟨v4,e4⟩: ∃v,aa f4 2=v:=⟨_,rfl⟩
   rw[e4]at r I
   simp(maxDischargeDepth:=6) only[qA,seval,e4,I]
   exact⟨_,_,rfl,r⟩
  ·obtain⟨e,k,rfl⟩: ∃e k,d=e++ [k]:=⟨d.dropLast,d.getLast h0,(List.dropLast_concat_getLast h0).symm⟩
   have aIS:=hd.resolve_left h0
   obtain⟨h1,h2,h3,h4⟩:=dM aIS
   obtain⟨f,hf,Cf⟩:=nR (h3 k yv)
   have Z:(e++ [k]).length=e.length+1:=by rw[List.length_append];rfl
   have hcn:can=kN t.fl.length (jn c t.fl) f:=by rw[←Y];unfold qE;rw[List.getLast?_append];simp[Cf]
   obtain⟨q,hq⟩:=iK f hf
   have hcl:=gY (e++ [k])
   have hdr:(iv (e++ [k])).drop (e.length*2)= [qi (f:Int),.b k.2]:=by
    rw[Ht,List.drop_append,gY,Nat.sub_self,List.drop_of_length_le (by rw[gY];omega),List.nil_append,List.drop_zero,←Cf]
    rfl
   have hia: ∀kk,iaV (.sl (iv (e++ [k])) (e.length+1) false) (.i kk (e.length:Int)) 2=some (.vp [qi (f:Int),.b k.2]):=fun kk=>by
    rw[cX,if_pos ⟨by omega,by simp,by rw[hcl,Z];simp⟩,Int.toNat_natCast,hdr]
   have hw:wr .i64 (((e.length+1:Nat):Int)-1)=(e.length:Int):=by rw[aZ zV];omega
   have dL:lenI (T.sl (iv (e++ [k])) (e.length+1) false)=some (qi ((e.length+1:Nat):Int)):=rfl
   have h6: ¬((e.length+1:Nat):Int)=6:=zV
   have K9:(0:Int)<((e.length+1:Nat):Int):=zV
   rw[Z]at*
   have hsl:IsSl (qL can) can.length (ints (can.map Int.ofNat)):=by
    unfold qL
    split
    ·rename_i h;rw[h];exact .inl ⟨rfl,rfl,rfl⟩
    ·exact .inr ⟨_,rfl⟩
   rw[←hcn]at hq
   unfold aO at*
   rw[au Sv (by simp[c30])]
   simp(maxDischargeDepth:=6) only[qA,seval,c30,dL,h6,K9,hw,hia,hq]
   generalize V:DC pE 111 (.loop tI) _=D
   obtain⟨f4,l4,s4,rfl,r,pr4⟩:=qK Bf V (TQ can rfl (qL can) _ _ _ (.inl hsl) (by simp only[qA,seval];rw[List.length_append];rfl) yk yk yk yk yk yk yk yk yk (by simp only[qA,seval];exact U))
   have I:=fun lh=>UW lh _ _ _ r
   obtain⟨v4,e4⟩: ∃v,aa f4 2=v:=⟨_,rfl⟩
   rw[e4]at r I
   simp(maxDischargeDepth:=6) only[qA,seval,e4,I]
   exact⟨_,_,rfl,r⟩
end
def vBd:Nat→Nat
 |0=>0
 |n+1=>2*(1+12*vBd n)
theorem HJ{α β:Type}(f:α→List β)(B:Nat): ∀(l:List α),(∀x∈l,(f x).length≤B)→(l.flatMap f).length≤l.length*B
 | [],_=>by simp
 |x::l,h=>by
  have h1:=h x List.mem_cons_self
  have h2:=HJ f B l fun y r=>h y (List.mem_cons_of_mem _ r)
  rw[List.flatMap_cons,List.length_append,List.length_cons,Nat.succ_mul]
  omega
section
variable(N:Nat)(J:Nat→Nat→Bool)(cp:Nat→Bool)(ok:List (Int×Bool)→Bool)(lg:List (Int×Bool)→Lg)(hN:N≤12)
include hN
def one_le(r:List (Int×Bool)→Nat→Nat→List Lg)(B:Nat)(D: ∀x g h,(r x g h).length≤B)(x:List (Int×Bool))(f h:Nat):(tc N J ok lg r x f h).length≤1+12*B:=by
 unfold tc
 rw[List.length_append]
 have h1:(if ok x=true then [lg x]else []).length≤1:=by split <;> simp
 have h2:=HJ (fun g=>r x g h) B (kN N J f) fun g _=>D x g h
 have h3:(kN N J f).length≤12:=Nat.le_trans (HC _ _) hN
 have h4:(kN N J f).length*B≤12*B:=Nat.mul_le_mul_right B h3
 omega
theorem abN: ∀(n:Nat) (d:List (Int×Bool)) (f h:Nat),(eI N J cp ok lg n d f h).length≤vBd n
 |0,_,_,_=>Nat.zero_le _
 |n+1,d,f,h=>by
  have ih:=fun x g h=>abN n x g h
  have h1:=fun x h=>one_le N J ok lg hN _ _ ih x f h
  rw[eI,List.length_append,vBd]
  have a1:(if cp f=true then tc N J ok lg (eI N J cp ok lg n) (d++ [((f:Int),false)]) f h else []).length≤1+12*vBd n:=by
   split
   ·exact h1 _ _
   ·simp
  have a2:(if h=0 then []else tc N J ok lg (eI N J cp ok lg n) (d++ [((f:Int),true)]) f (h-1)).length≤1+12*vBd n:=by
   split
   ·simp
   ·exact h1 _ _
  omega
def abO(H:Nat):(kP N J cp ok lg H).length≤1000000000:=by
 have h:=HJ (fun f=>eI N J cp ok lg 6 [] f H) (vBd 6) (List.range N) fun f _=>abN N J cp ok lg hN 6 [] f H
 rw[List.length_range]at h
 have h2:N*vBd 6≤12*vBd 6:=Nat.mul_le_mul_right _ hN
 have h3:12*vBd 6≤1000000000:=zz
 exact Nat.le_trans h (Nat.le_trans h2 h3)
end
def Em(out:List Lg)(v:T):Prop:= ∃cs,IsSl v out.length cs∧aD LgQ out cs
def ahF(out:List Lg): ∃v,Em out v:=by
 obtain⟨cs,h⟩: ∃cs,aD LgQ out cs:=by
  induction out with
  |nil=>exact⟨[],rfl⟩
  |cons g out ih=>
   obtain⟨cs,h⟩:=ih
   exact⟨_,_,_,rfl,⟨.sl (iv g.du) g.du.length false,rfl,.inr ⟨_,rfl⟩⟩,h⟩
 exact⟨.sl cs out.length false,cs,.inr ⟨_,rfl⟩,h⟩
def gk{v:T}(h:froz1 v=true):kept1 v=true:=by cases v <;> simp_all[froz1,kept1]
def QO{v:T}(h:froz1 v=true):kept v=true:=by cases v <;> simp_all[froz1,kept,kept1]
section
variable(t:Tt)(c:Ct)(zT aT fT a7 a8 a9 aw aA az:T)(hT:jV t zT aT fT)(hC:kR c a7 a8 a9 aw aA az)(hA:CY c)(hL: ∀f∈t.fl,f.nu.length≤gJ)(hN:t.fl.length≤12)
include hT hC hA hN
include hL
def apR(t:Tt)(c:Ct)(ops:List Int)(H:Nat):Prop:=20000<Ul c t.fl ops H∨2000<(kP t.fl.length (jn c t.fl) (jc ops) (jy t c) (cF t c) H).length
def abP(ops:List Int)(Z:T)(ho:IsSl Z ops.length (ints ops))(W:ops.length≤1000)(H:Int): ∃v s,ae pE 8 [.agg [zT,aT,fT],.agg (aO c a7 a8 a9 aw aA az),Z,qi H] []=some (if HH t c ops H=0 then(if 20000<Ul c t.fl ops H.toNat∨2000<(kP t.fl.length (jn c t.fl) (jc ops) (jy t c) (cF t c) H.toNat).length then .tup [.nilsl,qi 10]else .tup [v,qi 0])else .tup [.nilsl,qi (HH t c ops H)],s)∧Em (kP t.fl.length (jn c t.fl) (jc ops) (jy t c) (cF t c) H.toNat) v:=by
 have U:=Aj t c zT aT fT a7 a8 a9 aw aA az hT hC
 have TX:=ho.froz
 have aIN:=ho.froz1
 obtain⟨s0,V⟩:=ahA t c zT aT fT a7 a8 a9 aw aA az hT hC hA hL zV ops Z ho W H
 by_cases r:HH t c ops H=0
 ·obtain⟨h0,h2,h3⟩:ee t c=0∧DN t.fl.length none ops=0∧ ¬(H<0∨6<H):=by
   unfold HH at r
   by_cases h0:ee t c=0
   ·rw[if_pos h0]at r
    by_cases h2:DN t.fl.length none ops=0
    ·rw[if_pos h2]at r
     refine⟨h0,h2,fun h3=> ?_⟩
     rw[if_pos h3]at r;cases r
    ·rw[if_neg h2]at r;exact absurd r h2
   ·rw[if_neg h0]at r;exact absurd r h0
  obtain⟨m,rfl⟩: ∃m:Nat,H=(m:Int):=⟨H.toNat,by omega⟩
  have e2:=abD t c zT aT fT a7 a8 a9 aw aA az hT hC zV ops Z ho W
  have e3:=FN t c zT aT fT a7 a8 a9 aw aA az hT hC zV
  rw[if_pos h2]at e2
  rw[r,if_pos rfl,Int.toNat_natCast]at V
  simp only[r,if_true,Int.toNat_natCast]
  have hnf:froz1 (bj t.fl.length (((List.range t.fl.length).map (kN t.fl.length (jn c t.fl))).map qL))=true:=by unfold bj;split <;> rfl
  have hnF:froz (bj t.fl.length (((List.range t.fl.length).map (kN t.fl.length (jn c t.fl))).map qL))=true:=by unfold bj;split <;> rfl
  have iK: ∀f,f<t.fl.length→ ∃q,∀kk,iaV (bj t.fl.length (((List.range t.fl.length).map (kN t.fl.length (jn c t.fl))).map qL)) (.i kk (f:Int)) 1=some (.vp (qL (kN t.fl.length (jn c t.fl) f)::q)):=fun f hf=>by
   have W:(((List.range t.fl.length).map (kN t.fl.length (jn c t.fl))).map qL).length=t.fl.length:=yv
   unfold bj
   rw[if_neg zV]
   refine⟨(((List.range t.fl.length).map (kN t.fl.length (jn c t.fl))).map qL).drop (f+1),fun kk=> ?_⟩
   rw[cX,if_pos ⟨by omega,by simpa using hf,by rw[W];simp;omega⟩,Int.toNat_natCast,Nat.mul_one,List.drop_eq_getElem_cons (by rw[W];exact hf)]
   simp
  have hmf:froz1 (.sl (yJ (inB t.fl.length ops)) t.fl.length false)=true:=rfl
  have hmF:froz (.sl (yJ (inB t.fl.length ops)) t.fl.length false)=true:=rfl
  obtain⟨v,s',e4,hV⟩:=abL t c zT aT fT a7 a8 a9 aw aA az hT hC hA hL h0 zV (.sl (yJ (inB t.fl.length ops)) t.fl.length false) (bj t.fl.length (((List.range t.fl.length).map (kN t.fl.length (jn c t.fl))).map qL)) hmF hnF (jc ops) (aby t.fl.length ops) rfl iK 6 [] .nilsl m [] .nilsl [] rfl (.inl ⟨rfl,rfl⟩) (.inl rfl) zV (.inl ⟨rfl,rfl,rfl⟩) (by
   have:=abO t.fl.length (jn c t.fl) (jc ops) (jy t c) (cF t c) hN m
   unfold kP at this
   simpa[qE]using this)
  have X:(qE t.fl.length (jn c t.fl) []).flatMap (fun f=>eI t.fl.length (jn c t.fl) (jc ops) (jy t c) (cF t c) 6 [] f m)=kP t.fl.length (jn c t.fl) (jc ops) (jy t c) (cF t c) m:=rfl
  rw[List.nil_append,X]at hV
  clear X
  generalize hmT:T.sl (yJ (inB t.fl.length ops)) t.fl.length false=mT at*
  generalize bj t.fl.length (((List.range t.fl.length).map (kN t.fl.length (jn c t.fl))).map qL)=nT at*
  unfold aO at*
  have I:(kept1 zT=true∧kept1 aT=true∧kept1 fT=true∧kept1 a7=true∧kept1 a8=true∧kept1 a9=true∧kept1 aw=true∧kept1 aA=true∧kept1 az=true):=by
   obtain⟨⟨z1,z2,z3,z4,z5,z6,z7,z8,z9⟩,_⟩:=U
   exact⟨gk z1,gk z2,gk z3,gk z4,gk z5,gk z6,gk z7,gk z8,gk z9⟩
  have TL:kept mT=true:=QO hmf
  have jH:kept nT=true:=QO hnf
  rcases hV with⟨rfl,h5,rfl⟩|⟨g,cs,rfl,rfl,b1⟩
  ·refine⟨.nilsl, ?_⟩
   have K:Em (kP t.fl.length (jn c t.fl) (jc ops) (jy t c) (cF t c) m) .nilsl:=⟨[],by rw[h5];exact .inl ⟨rfl,rfl,rfl⟩,by rw[h5];rfl⟩
   have D: ¬2000<(kP t.fl.length (jn c t.fl) (jc ops) (jy t c) (cF t c) m).length:=by rw[h5];simp
   rw[au fn8 (by simp[c8])]
   by_cases Y:20000<Ul c t.fl ops m
   all_goals
    simp(maxDischargeDepth:=6) only[qA,bg,dA,seval,aH,c8,U,I,V,e2,e3,e4,WS,MK,aeb,amR,amU,amS,TX,TL,jH,Y,D,or_self,true_or]
    exact⟨_,rfl,K⟩
  ·refine⟨.sl cs (kP t.fl.length (jn c t.fl) (jc ops) (jy t c) (cF t c) m).length false, ?_⟩
   have K:Em (kP t.fl.length (jn c t.fl) (jc ops) (jy t c) (cF t c) m) (.sl cs (kP t.fl.length (jn c t.fl) (jc ops) (jy t c) (cF t c) m).length false):=⟨cs,.inr ⟨_,rfl⟩,b1⟩
   have hcl:=b1.len LgQ.len
   have dL:lenI (T.isl .S 0 g 0 (kP t.fl.length (jn c t.fl) (jc ops) (jy t c) (cF t c) m).length 7)=some (qi ((kP t.fl.length (jn c t.fl) (jc ops) (jy t c) (cF t c) m).length:Int)):=rfl
   have hzS:=fun q lh=>Dd (m:=q) (lh:=lh) (s:= [(⟨g,.cells cs 0 false⟩:ah)]) (k:=0) rfl hcl
   rw[au fn8 (by simp[c8])]
   by_cases Y:20000<Ul c t.fl ops m
   ·simp(maxDischargeDepth:=6) only[qA,seval,c8,U,V,WS,TX,Y,true_or]
    exact⟨_,rfl,K⟩
   ·by_cases D:2000<(kP t.fl.length (jn c t.fl) (jc ops) (jy t c) (cF t c) m).length
    ·have O:(2000:Int)<((kP t.fl.length (jn c t.fl) (jc ops) (jy t c) (cF t c) m).length:Int):=zV
     simp(maxDischargeDepth:=6) only[qA,bg,dA,seval,aH,c8,U,I,V,e2,e3,e4,WS,MK,aeb,amR,amU,amS,TX,TL,jH,Y,D,O,dL,or_true]
     exact⟨_,rfl,K⟩
    ·have O: ¬(2000:Int)<((kP t.fl.length (jn c t.fl) (jc ops) (jy t c) (cF t c) m).length:Int):=zV
     simp(maxDischargeDepth:=6) only[qA,bg,dA,seval,aH,c8,U,I,V,e2,e3,e4,WS,MK,aeb,amR,amU,amS,TX,TL,jH,Y,D,O,dL,hzS,or_self]
     exact⟨_,rfl,K⟩
 ·obtain⟨v,K⟩:=ahF (kP t.fl.length (jn c t.fl) (jc ops) (jy t c) (cF t c) H.toNat)
  refine⟨v, ?_⟩
  rw[if_neg r]
  unfold aO at*
  rw[au fn8 (by simp[c8])]
  simp(maxDischargeDepth:=6) only[qA,seval,c8,U,V,WS,TX,r]
  exact⟨_,rfl,K⟩
end
end Go.Proofs.YtnkgnjecmfkcfaaGreat
