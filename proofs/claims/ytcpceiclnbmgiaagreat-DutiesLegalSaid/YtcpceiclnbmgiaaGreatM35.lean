/- Walks of functions of the program and of the reference, and their plain laws, part 35. Conditions: the theorems' own. -/
import Derived.Test.YtcpceiclnbmgiaaGreatM34
import Derived.KernelRfl
set_option maxRecDepth 100000
set_option linter.unusedSimpArgs false
set_option linter.unusedVariables false
set_option maxHeartbeats 16000000
namespace Go.Proofs.YtcpceiclnbmgiaaGreat
open Go Go.Ev
section
variable(t:Tt)(c:Ct)(zT aT fT a7 a8 a9 iq iy iv:T)(hT:uf t zT aT fT)(hC:um c a7 a8 a9 iq iy iv)(hA:M4 c)(hk:uq t c=0)(d:List (Int×Bool))(dT:T)(hd:GG d dT)(hlen:d.length≤1000)
include hT hC hA hk hd hlen
theorem Qa: ∃r,be pE 37 [.agg [zT,aT,fT],.agg (jz c a7 a8 a9 iq iy iv),dT] []=some (if tN c t.fl d=0 then .tup [stV c zT aT fT a7 a8 a9 iq iy iv r,.i .i64 0]else .tup [.nilptr,.i .i64 (tN c t.fl d)],[])∧FB t c r:=by
 obtain⟨s,r,D,F⟩:=Xg t c zT aT fT a7 a8 a9 iq iy iv hT hC hA hk
 refine⟨r, ?_,F⟩
 have I:=fzA t c zT aT fT a7 a8 a9 iq iy iv hT hC
 have Qb:=hd.sl.froz
 have K:=YO t c zT aT fT a7 a8 a9 iq iy iv r hT d dT hd hlen
 have FE:=qS c zT aT fT a7 a8 a9 iq iy iv r
 have YT:froz1 (stV c zT aT fT a7 a8 a9 iq iy iv r)=true:=rfl
 generalize tN c t.fl d=E at*
 unfold jz at*
 rw[il ape (by simp[N6])]
 by_cases O:E=0
 all_goals simp(maxDischargeDepth:=6) only[qA,seval,N6,I,D,K,QU,apF,Qb,FE,YT,O]
theorem adC: ∃r,be pE 43 [.agg [zT,aT,fT],.agg (jz c a7 a8 a9 iq iy iv),dT] []=some (if tN c t.fl d=0 then .tup [stV c zT aT fT a7 a8 a9 iq iy iv r,.i .i64 0]else .tup [.nilptr,.i .i64 (tN c t.fl d)],[])∧FB t c r:=by
 obtain⟨s,r,D,F⟩:=Xg t c zT aT fT a7 a8 a9 iq iy iv hT hC hA hk
 refine⟨r, ?_,F⟩
 have I:=fzA t c zT aT fT a7 a8 a9 iq iy iv hT hC
 have Qb:=hd.sl.froz
 have K:=YO t c zT aT fT a7 a8 a9 iq iy iv r hT d dT hd hlen
 have FE:=qS c zT aT fT a7 a8 a9 iq iy iv r
 have YT:froz1 (stV c zT aT fT a7 a8 a9 iq iy iv r)=true:=rfl
 generalize tN c t.fl d=E at*
 unfold jz at*
 rw[il apl (by simp[c43])]
 by_cases O:E=0
 all_goals simp(maxDischargeDepth:=6) only[qA,seval,c43,I,D,K,QU,apF,Qb,FE,YT,O]
theorem adD:be pE 13 [.agg [zT,aT,fT],.agg (jz c a7 a8 a9 iq iy iv),dT] []=some (if tN c t.fl d=0 then .tup [lN (oC (jS t c d) (FG c)).length (YS (oC (jS t c d) (FG c))),.i .i64 0]else .tup [.nilsl,.i .i64 (tN c t.fl d)],[]):=by
 obtain⟨r,O,hS⟩:=Qa t c zT aT fT a7 a8 a9 iq iy iv hT hC hA hk d dT hd hlen
 have hz:=fzA t c zT aT fT a7 a8 a9 iq iy iv hT hC
 have Qb:=hd.sl.froz
 have FE:=qS c zT aT fT a7 a8 a9 iq iy iv r
 have YT:froz1 (stV c zT aT fT a7 a8 a9 iq iy iv r)=true:=rfl
 by_cases U:tN c t.fl d=0
 ·obtain⟨h1,h6,jB,_⟩:=zw U
  obtain⟨ht,hc⟩:=M5 t c zT aT fT a7 a8 a9 iq iy iv hT hC hA hk
  obtain⟨s1,K5⟩:=HY t c zT aT fT a7 a8 a9 iq iy iv r hT hS ht hc d dT hd h1 (by omega) jB
  have D:=Eb (t:=t) (c:=c) ht hc h1 (show d.length≤100 by omega) jB
  obtain⟨g1,g2,g3,g4,g5⟩:=XF (t:=t) hc D
  have kM:IsSl (.sl (ints (jS t c d)) 11 false) (jS t c d).length (ints (jS t c d)):= .inr ⟨false,by rw[D.1]⟩
  have hbl:=P9 (jS t c d) (FG c)
  obtain⟨q,r1,r2,r3,c1,c2,c3,cr,nb,Oy,_,_,F,_,_,W,_,_,X⟩:=hS
  have Oy:r=E5 (.vm (q.map fun p=>sK p.1) (q.map fun p=>T.agg p.2)) r1 r2 r3 c1 c2 c3 cr (.b nb):=Oy
  have hb:=akI c zT aT fT a7 a8 a9 iq iy iv (.vm (q.map fun p=>sK p.1) (q.map fun p=>T.agg p.2)) r1 r2 r3 c1 c2 c3 cr (.b nb) _ _ kM (FG c) F g1 (by omega)
  rw[←Oy]at hb
  have hv:=auy (oC (jS t c d) (FG c)) (by omega)
  have Y:froz (lN (oC (jS t c d) (FG c)).length ((oC (jS t c d) (FG c)).map T.s))=true:=by unfold lN;split <;> rfl
  have Z:froz1 (lN (oC (jS t c d) (FG c)).length (YS (oC (jS t c d) (FG c))))=true:=by unfold lN;split <;> rfl
  have K:froz (lN (oC (jS t c d) (FG c)).length (YS (oC (jS t c d) (FG c))))=true:=by unfold lN;split <;> rfl
  rw[if_pos U]at O ⊢
  generalize lN (oC (jS t c d) (FG c)).length (YS (oC (jS t c d) (FG c)))=V at*
  generalize lN (oC (jS t c d) (FG c)).length ((oC (jS t c d) (FG c)).map T.s)=B at*
  have hcd:be pE 38 [stV c zT aT fT a7 a8 a9 iq iy iv r,dT] []=some (V,[]):=by
   rw[il apf (by simp[c38])]
   have hiz:froz (.sl (ints (jS t c d)) 11 false)=true:=rfl
   generalize ints (jS t c d)=I at*
   simp(maxDischargeDepth:=6) only[qA,seval,c38,K5,hb,hv,Ug,axA,axB,Qb,FE,Y,K,hiz]
  clear hb hv K5 kM F W X g1 g2 g3
  generalize stV c zT aT fT a7 a8 a9 iq iy iv r=S at*
  unfold jz at*
  rw[il agE (by simp[c13])]
  simp(maxDischargeDepth:=6) only[qA,seval,c13,hz,O,hcd,agL,axn,Qb,FE,YT,Z,K]
 ·rw[if_neg U]at O ⊢
  generalize tN c t.fl d=E at*
  unfold jz at*
  rw[il agE (by simp[c13])]
  simp(maxDischargeDepth:=6) only[qA,seval,c13,hz,O,agL,Qb,U]
theorem YU(hE:tN c t.fl d=0):be pE 15 [.agg [zT,aT,fT],.agg (jz c a7 a8 a9 iq iy iv),dT] []=some (.tup [.i .i64 (zr (jS t c d) (ZN c)),.i .i64 0],[])∧be pE 16 [.agg [zT,aT,fT],.agg (jz c a7 a8 a9 iq iy iv),dT] []=some (.tup [.i .i64 (uT (jS t c d) (crS c)),.i .i64 0],[])∧be pE 17 [.agg [zT,aT,fT],.agg (jz c a7 a8 a9 iq iy iv),dT] []=some (.tup [.agg [.i .i64 (xz c (l8 t.fl d 0)),.i .i64 (xD c (l8 t.fl d (d.length-1)))],.i .i64 0],[]):=by
 obtain⟨vs,e1,hS⟩:=Qa t c zT aT fT a7 a8 a9 iq iy iv hT hC hA hk d dT hd hlen
 obtain⟨F,e2,hW⟩:=adC t c zT aT fT a7 a8 a9 iq iy iv hT hC hA hk d dT hd hlen
 rw[if_pos hE]at e1 e2
 have hz:=fzA t c zT aT fT a7 a8 a9 iq iy iv hT hC
 have Qb:=hd.sl.froz
 have FE:=qS c zT aT fT a7 a8 a9 iq iy iv vs
 have K:=qS c zT aT fT a7 a8 a9 iq iy iv F
 obtain⟨h1,h6,jB,_⟩:=zw hE
 obtain⟨ht,hc⟩:=M5 t c zT aT fT a7 a8 a9 iq iy iv hT hC hA hk
 obtain⟨s1,K5⟩:=HY t c zT aT fT a7 a8 a9 iq iy iv vs hT hS ht hc d dT hd h1 (by omega) jB
 obtain⟨s2,hdw⟩:=HY t c zT aT fT a7 a8 a9 iq iy iv F hT hW ht hc d dT hd h1 (by omega) jB
 have hsp:=GL t c zT aT fT a7 a8 a9 iq iy iv F hT ht hc d dT hd h1 (by omega) jB
 have D:=Eb (t:=t) (c:=c) ht hc h1 (show d.length≤100 by omega) jB
 obtain⟨g1,g2,g3,g4,g5⟩:=XF (t:=t) hc D
 have kM:IsSl (.sl (ints (jS t c d)) 11 false) (jS t c d).length (ints (jS t c d)):= .inr ⟨false,by rw[D.1]⟩
 have O:froz (.sl (ints (jS t c d)) 11 false)=true:=rfl
 obtain⟨q,r1,r2,r3,c1,c2,c3,cr,nb,Oy,_,_,_,_,_,U,_,_,cro⟩:=hS
 have Oy:vs=E5 (.vm (q.map fun p=>sK p.1) (q.map fun p=>T.agg p.2)) r1 r2 r3 c1 c2 c3 cr (.b nb):=Oy
 have hb:=K1 c zT aT fT a7 a8 a9 iq iy iv (.vm (q.map fun p=>sK p.1) (q.map fun p=>T.agg p.2)) r1 r2 r3 c1 c2 c3 cr (.b nb) _ _ kM (ZN c) U g2 (by omega)
 obtain⟨q',V,W,X,Zt,Y,Z,cr',nb',r,_,_,_,_,_,_,_,_,auz⟩:=hW
 have r:F=E5 (.vm (q'.map fun p=>sK p.1) (q'.map fun p=>T.agg p.2)) V W X Zt Y Z cr' (.b nb'):=r
 have hr:=K2 c zT aT fT a7 a8 a9 iq iy iv (.vm (q'.map fun p=>sK p.1) (q'.map fun p=>T.agg p.2)) V W X Zt Y Z cr' (.b nb') _ _ kM (crS c) auz g3 D.1
 rw[←Oy]at hb
 rw[←r]at hr
 clear U cro auz g1 g2 g3 kM Oy r
 generalize ints (jS t c d)=I at*
 generalize zr (jS t c d) (ZN c)=x1 at*
 generalize uT (jS t c d) (crS c)=x2 at*
 generalize xz c (l8 t.fl d 0)=x3 at*
 generalize xD c (l8 t.fl d (d.length-1))=x4 at*
 generalize stV c zT aT fT a7 a8 a9 iq iy iv vs=S at*
 generalize stV c zT aT fT a7 a8 a9 iq iy iv F=S' at*
 unfold jz at*
 refine⟨?_, ?_, ?_⟩
 ·rw[il ao5 (by simp[c15])]
  simp(maxDischargeDepth:=6) only[qA,seval,c15,hz,e1,K5,hb,agL,Ug,apj,Qb,FE,O]
 ·rw[il ao6 (by simp[c16])]
  simp(maxDischargeDepth:=6) only[qA,seval,c16,hz,e2,hdw,hr,apm,Ug,apn,Qb,K,O]
 ·rw[il ao7 (by simp[c17])]
  simp(maxDischargeDepth:=6) only[qA,seval,c17,hz,e2,hsp,apm,apq,Qb,K]
end
theorem akL(a b:Int):be pE 70 [.i .i64 a,.i .i64 b] []=some (.i .i64 (if a<b then-1 else if b<a then 1 else 0),[]):=by
 have h: ∀x:Int,be pE 107 [.i .i64 x] []=some (.b false,[]):=by
  intro x
  rw[il adT (by simp[TB])]
  simp only[qA,seval,TB]
 rw[il apI (by simp[c70])]
 by_cases r:a<b
 ·simp only[qA,seval,c70,h,r,adU]
 ·by_cases D:b<a
  all_goals simp only[qA,seval,c70,h,r,D,adU]
theorem akM(x y:Int×Bool):be pE 40 [.agg [.i .i64 x.1,.b x.2],.agg [.i .i64 y.1,.b y.2]] []=some (.i .i64 (Ew x y),[]):=by
 have D:=akL x.1 y.1
 unfold Ew
 rw[il aph (by simp[c40])]
 obtain⟨x1,x2⟩:=x
 obtain⟨O,F⟩:=y
 simp only at D ⊢
 by_cases K:x1=O
 ·subst K
  rw[if_neg (Int.lt_irrefl _),if_neg (Int.lt_irrefl _)]at D
  have U:Option.map (fun r=>T.b (r != false)) (vz (EK.one CK.bool) (T.b x2) (T.b F))=some (T.b (x2==F)):=by cases x2 <;> cases F <;> rfl
  cases x2 <;> cases F
  all_goals
   simp only[qA,seval,c40,D,agU,qR,U]
   rfl
 ·by_cases I:x1<O
  ·rw[if_pos I]at D
   simp only[qA,seval,c40,D,K,I,agU]
  ·rw[if_neg I,if_pos (by omega)]at D
   simp only[qA,seval,c40,D,K,I,agU]
section
variable(d e:List (Int×Bool))(a b:T)(ha:IsSl a d.length (oE d))(hb:IsSl b e.length (oE e))(hd:d.length≤1000)(he:e.length≤1000)
include ha hb hd
theorem aBC(r:Int)(hr:r=if Ey d e≠0 then Ey d e else if e.length<d.length then 1 else 0)(fr:Fr)(lh:iw b8)(sh:List b8)(V:an fr 1=b)(X:an fr 2= .fn 40 [] [])(D:an fr 11=a)(F:an fr 12= .i .i64 (d.length:Int))(rL:an fr 13= .i .i64 0):
  xl pE 39 wO fr lh sh 0 6 r (fun Y Z=>Z=sh):=by
 refine kj I2 (fun k f Y Z=>an f 13= .i .i64 (k:Int)∧Z=sh∧k≤e.length∧Ey d e=Ey (d.drop k) (e.drop k)) d.length ⟨rL,rfl,Nat.zero_le _,rfl⟩ ?_ ?_
 ·rintro k f Y _ hk I ⟨Td,rfl,hke,K⟩
  have E8:(k:Int)<d.length:=by omega
  have hw:=iO (k:=k) (by omega)
  obtain⟨r1,je⟩:=Pq ha k hk
  have O: ∀(fr:Fr) (lh:iw b8) (sh:List b8) (q:Nat) (args:List T),yW pE (be pE) q ⟨fr,lh,sh⟩ (.fn 40 [] []) args=jf pE (be pE) q ⟨fr,lh,sh⟩ 40 (args++ []):=fun _ _ _ _ _=>rfl
  by_cases U:k<e.length
  ·have B7: ¬(e.length:Int)≤(k:Int):=by omega
   obtain⟨r2,YN⟩:=Pq hb k U
   rw[List.drop_eq_getElem_cons hk,List.drop_eq_getElem_cons U,Ey]at K
   have hc:=akM d[k] e[k]
   generalize d[k]=x at*
   generalize e[k]=y at*
   by_cases W:Ew x y=0
   ·rw[if_neg (by simp[W])]at K
    rw[W]at hc
    simp(maxDischargeDepth:=6) only[qB,seval,gd,wO,I,V,X,D,F,Td,ha.lenI,hb.lenI,E8,B7,je,YN,hc,hw,api,O]
    clear I
    grind
   ·rw[if_pos W]at K
    simp(maxDischargeDepth:=6) only[qB,seval,gd,wO,I,V,X,D,F,Td,ha.lenI,hb.lenI,E8,B7,je,YN,hc,W,hw,api,O]
    clear I
    grind
  ·have B7:(e.length:Int)≤(k:Int):=by omega
   rw[List.drop_eq_nil_of_le (by omega:e.length≤k),Ez (.inr rfl)]at K
   simp(maxDischargeDepth:=6) only[qB,seval,gd,wO,I,V,X,D,F,Td,ha.lenI,hb.lenI,E8,B7,je,hw]
   clear I
   grind
 ·rintro f Y _ I ⟨Td,rfl,hke,K⟩
  rw[List.drop_eq_nil_of_le (Nat.le_refl _),Ez (.inl rfl)]at K
  simp(maxDischargeDepth:=6) only[qB,seval,gd,wO,I,V,D,F,Td,ha.lenI,hb.lenI,Int.lt_irrefl]
  grind
include he
theorem akN:be pE 14 [a,b] []=some (.i .i64 (A6 d e),[]):=by
 have _:=he
 have r:=fun fr lh sh=>aBC d e a b ha hb hd _ rfl fr lh sh
 have D:be pE 39 [a,b,.fn 40 [] []] []=some (.i .i64 (A6 d e),[]):=by
  unfold A6 adb qR
  rw[il apg (by simp[c39])]
  simp(maxDischargeDepth:=6) only[qB,seval,c39,I2,ha.lenI,hb.lenI,r]
  clear r
  grind
 have F:=ha.froz
 have I:=hb.froz
 rw[il agF (by simp[c14])]
 simp(maxDischargeDepth:=6) only[qA,seval,c14,D,F,I,axo]
end
def IW(d:List (Int×Bool)):Nat:=(d.filter Prod.snd).length
theorem EN(k:Int×Bool)(d:List (Int×Bool)):IW (k::d)=(if k.2=true then 1 else 0)+IW d:=by
 unfold IW
 rw[List.filter_cons]
 split <;> simp <;> omega
theorem SL(x:Int×Bool):Ew x x=0:=by unfold Ew;rw[if_pos rfl];omega
theorem zN: ∀(d a b:List (Int×Bool)),A6 (d++a) (d++b)=A6 a b
 | [],a,b=>rfl
 |x::d,a,b=>by
  rw[←zN d a b]
  unfold A6 adb
  rw[List.cons_append,List.cons_append,Ey,SL]
  simp
theorem Bb{x y:Int×Bool}{a b:List (Int×Bool)}(h:Ew x y<0):A6 (x::a) (y::b)<0:=by
 unfold A6
 rw[Ey,if_pos (by omega),if_pos (by omega)]
 exact h
theorem NQ(y:Int×Bool)(b:List (Int×Bool)):A6 [] (y::b)<0:=by
 unfold A6 adb
 rw[Ez (.inl rfl)]
 simp
def NR(l:List Lg):Prop:=l.Pairwise fun a b=>A6 a.du b.du<0
section
variable(N:Nat)(J:Nat→Nat→Bool)(iC:Nat→Bool)(ok:List (Int×Bool)→Bool)(lg:List (Int×Bool)→Lg)(En: ∀x,(lg x).du=x)
def ZW:Nat→List (Int×Bool)→Prop
 |_,[]=>False
 |f,[k]=>f<N∧k.1=(f:Int)∧(k.2=false→iC f=true)
 |f,k::l::r=>f<N∧k.1=(f:Int)∧(k.2=false→iC f=true)∧ ∃g,J f g=true∧ZW g (l::r)
include En
theorem xL: ∀(n:Nat) (d:List (Int×Bool)) (f h:Nat),f<N→ ∀g,g∈lG N J iC ok lg n d f h↔ ∃y,ZW N J iC f y∧y.length≤n∧IW y≤h∧ok (d++y)=true∧g=lg (d++y)
 |0,d,f,h,U,g=>by
  have _:=En
  rw[lG]
  constructor
  ·intro h;cases h
  ·rintro⟨y,h1,I,_⟩
   cases y with
   |nil=>exact h1.elim
   |cons k r=>simp at I
 |n+1,d,f,h,U,g=>by
  have one: ∀(b:Bool) (h:Nat),(b=false→iC f=true)→(g∈tS N J ok lg (lG N J iC ok lg n) (d++ [((f:Int),b)]) f h↔ ∃y,ZW N J iC f (((f:Int),b)::y)∧y.length≤n∧IW y≤h∧ok (d++(((f:Int),b)::y))=true∧g=lg (d++(((f:Int),b)::y))):=by
   intro b h hb
   unfold tS
   rw[List.mem_append,List.mem_flatMap]
   constructor
   ·rintro(h1|⟨x,h1,I⟩)
    ·split at h1
     ·rename_i V
      rw[List.mem_singleton]at h1
      exact⟨[],⟨U,rfl,hb⟩,Nat.zero_le _,Nat.zero_le _,V,h1⟩
     ·cases h1
    ·obtain⟨V,W⟩:=List.mem_filter.1 h1
     obtain⟨y,i,O,K,D,F⟩:=(xL n _ x h (List.mem_range.1 V) g).1 I
     rw[List.append_assoc,List.singleton_append]at D F
     refine⟨y, ?_,O,K,D,F⟩
     cases y with
     |nil=>exact i.elim
     |cons l r=>exact⟨U,rfl,hb,x,W,i⟩
   ·rintro⟨y,i,O,K,D,F⟩
    cases y with
    |nil=>
     refine Or.inl ?_
     rw[if_pos D]
     exact List.mem_singleton.2 F
    |cons l r=>
     obtain⟨_,_,_,x,W,i⟩:=i
     have hx:x<N:=by
      cases r with
      |nil=>exact i.1
      |cons _ _=>exact i.1
     refine Or.inr ⟨x,List.mem_filter.2 ⟨List.mem_range.2 hx,W⟩,(xL n _ x h hx g).2 ⟨l::r,i,O,K, ?_, ?_⟩⟩
     ·rw[List.append_assoc,List.singleton_append];exact D
     ·rw[List.append_assoc,List.singleton_append];exact F
  have hd: ∀y,ZW N J iC f y→ ∃b X,y=((f:Int),b)::X∧(b=false→iC f=true):=by
   intro y Y
   match y,Y with
   | [(a,b)],⟨_,h1,I⟩=>exact⟨b,[],by rw[←h1],I⟩
   |(a,b)::l::r,⟨_,h1,I,_⟩=>exact⟨b,l::r,by rw[←h1],I⟩
  rw[lG,List.mem_append]
  constructor
  ·rintro(h1|h1)
   ·split at h1
    ·rename_i I
     obtain⟨y,i,O,K,D,F⟩:=(one false h fun _=>I).1 h1
     exact⟨_,i,by rw[List.length_cons];omega,by rw[EN];simpa using K,D,F⟩
    ·cases h1
   ·split at h1
    ·cases h1
    ·rename_i I
     obtain⟨y,i,O,K,D,F⟩:=(one true (h-1) (by simp)).1 h1
     exact⟨_,i,by rw[List.length_cons];omega,by rw[EN];simp;omega,D,F⟩
  ·rintro⟨y,i,O,K,D,F⟩
   obtain⟨b,y,rfl,hb⟩:=hd y i
   rw[List.length_cons]at O
   rw[EN]at K
   cases b
   ·refine Or.inl ?_
    rw[if_pos (hb rfl)]
    exact(one false h hb).2 ⟨y,i,by omega,by simpa using K,D,F⟩
   ·refine Or.inr ?_
    simp at K
    rw[if_neg (by omega)]
    exact(one true (h-1) hb).2 ⟨y,i,by omega,by omega,D,F⟩
theorem Qc: ∀(n:Nat) (d:List (Int×Bool)) (f h:Nat),f<N→NR (lG N J iC ok lg n d f h)
 |0,d,f,h,K=>by unfold lG;exact List.Pairwise.nil
 |n+1,d,f,h,K=>by
  have hd: ∀(x:List (Int×Bool)) (f h:Nat) g,f<N→g∈lG N J iC ok lg n x f h→ ∃b y,g.du=x++((f:Int),b)::y:=by
   intro x f h g K hg
   obtain⟨y,U,_,_,_,rfl⟩:=(xL N J iC ok lg En n x f h K g).1 hg
   rw[En]
   match y,U with
   | [(a,b)],⟨_,F,_⟩=>exact⟨b,[],by rw[←F]⟩
   |(a,b)::l::r,⟨_,F,_⟩=>exact⟨b,l::r,by rw[←F]⟩
  have one: ∀(x:List (Int×Bool)) (h:Nat),NR (tS N J ok lg (lG N J iC ok lg n) x f h)∧ ∀g∈tS N J ok lg (lG N J iC ok lg n) x f h,∃y,g.du=x++y:=by
   intro x h
   have O: ∀g∈(qd N J f).flatMap (fun e=>lG N J iC ok lg n x e h),∃e b y,g.du=x++((e:Int),b)::y:=by
    intro g hg
    obtain⟨e,F,V⟩:=List.mem_flatMap.1 hg
    obtain⟨b,y,i⟩:=hd x e h g (List.mem_range.1 (List.mem_filter.1 F).1) V
    exact⟨e,b,y,i⟩
   unfold tS NR
   refine⟨List.pairwise_append.2 ⟨?_, ?_, ?_⟩, ?_⟩
   ·split
    ·exact List.pairwise_singleton _ _
    ·exact List.Pairwise.nil
   ·rw[List.pairwise_flatMap]
    refine⟨fun e he=>Qc n x e h (List.mem_range.1 (List.mem_filter.1 he).1), ?_⟩
    refine List.Pairwise.imp_of_mem ?_ (List.Pairwise.filter _ List.pairwise_lt_range)
    intro e W he IF Y g hg I QW
    obtain⟨b,y,i⟩:=hd x e h g (List.mem_range.1 (List.mem_filter.1 he).1) hg
    obtain⟨Z,X,D⟩:=hd x W h I (List.mem_range.1 (List.mem_filter.1 IF).1) QW
    rw[i,D,zN]
    refine Bb ?_
    unfold Ew
    simp only
    rw[if_neg (by omega),if_pos (by omega)]
    decide
   ·intro g hg I QW
    split at hg
    ·rw[List.mem_singleton]at hg
     subst hg
     obtain⟨e,b,y,i⟩:=O I QW
     rw[En,i]
     have:=zN x [] (((e:Int),b)::y)
     rw[List.append_nil]at this
     rw[this]
     exact NQ _ _
    ·cases hg
   ·intro g hg
    rcases List.mem_append.1 hg with hg|hg
    ·split at hg
     ·rw[List.mem_singleton]at hg
      subst hg
      exact⟨[],by rw[En,List.append_nil]⟩
     ·cases hg
    ·obtain⟨e,b,y,i⟩:=O g hg
     exact⟨_,i⟩
  rw[lG]
  unfold NR at*
  refine List.pairwise_append.2 ⟨?_, ?_, ?_⟩
  ·split
   ·exact(one _ _).1
   ·exact List.Pairwise.nil
  ·split
   ·exact List.Pairwise.nil
   ·exact(one _ _).1
  ·intro g hg I QW
   split at hg
   ·split at QW
    ·cases QW
    ·obtain⟨y,i⟩:=(one _ _).2 g hg
     obtain⟨X,D⟩:=(one _ _).2 I QW
     rw[i,D,List.append_assoc,List.append_assoc,zN,List.singleton_append,List.singleton_append]
     refine Bb ?_
     unfold Ew qR
     simp
   ·cases hg
theorem akO(H:Nat)(g:Lg):g∈qo N J iC ok lg H↔ ∃f y,f<N∧ZW N J iC f y∧y.length≤6∧IW y≤H∧ok y=true∧g=lg y:=by
 unfold qo
 rw[List.mem_flatMap]
 constructor
 ·rintro⟨f,K,U⟩
  obtain⟨y,i,r,D,F,I⟩:=(xL N J iC ok lg En 6 [] f H (List.mem_range.1 K) g).1 U
  exact⟨f,y,List.mem_range.1 K,i,r,D,F,I⟩
 ·rintro⟨f,y,O,i,r,D,F,I⟩
  exact⟨f,List.mem_range.2 O,(xL N J iC ok lg En 6 [] f H O g).2 ⟨y,i,r,D,F,I⟩⟩
theorem adE(H:Nat):NR (qo N J iC ok lg H):=by
 unfold qo NR
 rw[List.pairwise_flatMap]
 refine⟨fun f K=>Qc N J iC ok lg En 6 [] f H (List.mem_range.1 K), ?_⟩
 refine List.Pairwise.imp_of_mem ?_ List.pairwise_lt_range
 intro e I he IF W g hg O QW
 obtain⟨y,U,_,_,_,rfl⟩:=(xL N J iC ok lg En 6 [] e H (List.mem_range.1 he) g).1 hg
 obtain⟨i,D,_,_,_,rfl⟩:=(xL N J iC ok lg En 6 [] I H (List.mem_range.1 IF) O).1 QW
 rw[En,En,List.nil_append,List.nil_append]
 have hd: ∀f y,ZW N J iC f y→ ∃b i,y=((f:Int),b)::i:=by
  intro f y V
  match y,V with
  | [(a,b)],⟨_,F,_⟩=>exact⟨b,[],by rw[←F]⟩
  |(a,b)::l::r,⟨_,F,_⟩=>exact⟨b,l::r,by rw[←F]⟩
 obtain⟨b,z,rfl⟩:=hd e y U
 obtain⟨X,Y,rfl⟩:=hd I i D
 refine Bb ?_
 unfold Ew
 simp only
 rw[if_neg (by omega),if_pos (by omega)]
 decide
end
theorem Qd{N:Nat}{J:Nat→Nat→Bool}{iC:Nat→Bool}: ∀{f:Nat} {y:List (Int×Bool)},ZW N J iC f y→1≤y.length∧(∀k∈y,xq N k.1=true)∧ ∀k∈y,k.2=false→iC k.1.toNat=true
 |_,[],h=>h.elim
 |f,[k],⟨F,i,D⟩=>by
  refine⟨by simp, ?_, ?_⟩
  ·intro q hq
   rw[List.mem_singleton.1 hq,i]
   unfold xq;rw[decide_eq_true_eq];omega
  ·intro q hq hb
   rw[List.mem_singleton.1 hq]at hb ⊢
   rw[i];exact D hb
 |f,k::l::r,⟨F,i,D,g,U,I⟩=>by
  obtain⟨V,K,O⟩:=Qd I
  refine⟨by simp, ?_, ?_⟩
  ·intro q hq
   rcases List.mem_cons.1 hq with rfl|hq
   ·rw[i];unfold xq;rw[decide_eq_true_eq];omega
   ·exact K q hq
  ·intro q hq hb
   rcases List.mem_cons.1 hq with rfl|hq
   ·rw[i];exact D hb
   ·exact O q hq hb
theorem YV{N:Nat}{J:Nat→Nat→Bool}{iC:Nat→Bool}{f:Nat}{l:Int×Bool}{r:List (Int×Bool)}(h:ZW N J iC f (l::r)):l.1=(f:Int)∧f<N:=by
 cases r with
 |nil=>exact⟨h.2.1,h.1⟩
 |cons _ _=>exact⟨h.2.1,h.1⟩
theorem YW(c:Ct)(i:List Fl){iC:Nat→Bool}: ∀{f:Nat} {y:List (Int×Bool)},ZW i.length (jn c i) iC f y→LV c i y=true
 |_,[],h=>h.elim
 |f,[k],h=>rfl
 |f,k::l::r,⟨D,K,V,g,O,F⟩=>by
  obtain⟨U,I⟩:=YV F
  rw[LV,YW c i F,Bool.and_true,K,U,D5 c i D I,←Pu D I]
  exact O
theorem YX(c:Ct)(i:List Fl){iC:Nat→Bool}: ∀(y:List (Int×Bool)),1≤y.length→(∀k∈y,xq i.length k.1=true)→(∀k∈y,k.2=false→iC k.1.toNat=true)→LV c i y=true→ ∃f,f<i.length∧ZW i.length (jn c i) iC f y
 | [],h,_,_,_=>by simp at h
 | [k],_,I,K,_=>by
   obtain⟨f,D,F⟩:=xt (I k (by simp))
   refine⟨f,D,D,F,fun hb=> ?_⟩
   have:=K k (by simp) hb
   rw[F]at this
   exact this
 |k::l::r,_,I,K,O=>by
  rw[LV,Bool.and_eq_true]at O
  obtain⟨f,D,F⟩:=xt (I k (by simp))
  obtain⟨g,Y,V⟩:=YX c i (l::r) (by simp) (fun q U=>I q (List.mem_cons_of_mem _ U)) (fun q U=>K q (List.mem_cons_of_mem _ U)) O.2
  obtain⟨X,W⟩:=YV V
  refine⟨f,D,D,F,fun hb=> ?_,g, ?_,V⟩
  ·have:=K k (by simp) hb
   rw[F]at this
   exact this
  ·have:=O.1
   rw[F,X,D5 c i D W]at this
   rw[Pu D W]
   exact this
section
variable(ops:List Int)(oT:T)(ho:IsSl oT ops.length (ints ops))(Xj:ops.length≤1000)(d:List (Int×Bool))(dv:T)(hd:IsSl dv d.length (oE d))(hld:d.length≤1000)(rest:List T)(G:Nat)
include ho Xj hd hld
theorem le1(m:Nat)(Z:m<d.length)(mH:d[m].1∈ops)(fr:Fr)(lh:iw b8)(sh:List b8)(K:an fr 8=oT)(F:an fr 12= .ptr .L 12 G 0)(EB:an fr 22= .i .i64 (m:Int))(O:an fr 23= .b false)(U:an fr 24= .i .i64 0)(XS:b7 lh 12=⟨G,.cells (dv::rest) 0 true⟩):
  Lp pE 189 CM fr lh sh (.ext 4) fun f l s=>l=lh∧s=sh∧an f 23= .b true:=by
 have _:=hld
 have V:=ho.lenI
 obtain⟨r1,W⟩:=Pq hd m Z
 generalize d[m].1=x at*
 generalize d[m].2=y at*
 refine kE NY (fun k f l s=>an f 24= .i .i64 (k:Int)∧l=lh∧s=sh∧ ∃b,an f 23= .b b∧(x∈ops.take k→b=true)) ops.length ⟨U,rfl,rfl,false,O,by simp⟩ ?_ ?_
 ·rintro k f l s hk I ⟨D,rfl,rfl,b,r,hb⟩
  have X:(k:Int)<ops.length:=by omega
  have Y:=iO (k:=k) (by omega)
  obtain⟨r2,YN⟩:=ints_at ho k hk
  have Pt:x∈ops.take (k+1)↔x∈ops.take k∨ops[k]=x:=by
   rw[List.take_succ_eq_append_getElem hk,List.mem_append,List.mem_singleton]
   exact or_congr Iff.rfl eq_comm
  rw[Pt]
  cases b
  ·by_cases hE:ops[k]=x
   all_goals
    simp(maxDischargeDepth:=6) only[qA,jG,sN,seval,iE,gd,CM,I,K,F,EB,D,r,XS,V,X,Y,W,YN,hE]
   ·exact⟨_,rfl,fun _=>rfl⟩
   ·exact⟨_,rfl,fun h=>h.elim (fun h=>hb h) fun h=>h.elim⟩
  ·simp(maxDischargeDepth:=6) only[qA,jG,sN,seval,iE,gd,CM,I,K,F,EB,D,r,XS,V,X,Y,W,YN]
   exact⟨_,rfl,fun _=>rfl⟩
 ·rintro f l s I ⟨D,rfl,rfl,b,r,hb⟩
  rw[List.take_length]at hb
  rw[hb mH]at r
  simp only[qA,seval,gd,CM,I,K,V,D,Int.lt_irrefl]
  exact r
theorem le2(mH: ∀k∈d,k.2=false→k.1∈ops)(fr:Fr)(lh:iw b8)(sh:List b8)(h8:an fr 8=oT)(I:an fr 12= .ptr .L 12 G 0)(YY:an fr 21= .i .i64 0)(EB:an fr 22= .i .i64 0)(XS:b7 lh 12=⟨G,.cells (dv::rest) 0 true⟩):
  Lp pE 189 CN fr lh sh (.ext 2) fun f l s=>l=lh∧s=sh∧an f 21= .i .i64 (IW d):=by
 have O:=hd.lenI
 refine kE NZ (fun k f l s=>an f 22= .i .i64 (k:Int)∧l=lh∧s=sh∧an f 21= .i .i64 (IW (d.take k))) d.length ⟨EB,rfl,rfl,YY⟩ ?_ ?_
 ·rintro k f l s hk K ⟨r,rfl,rfl,F⟩
  have X:(k:Int)<d.length:=by omega
  have Y:=iO (k:=k) (by omega)
  obtain⟨r1,Z⟩:=Pq hd k hk
  have hh:IW (d.take (k+1))=IW (d.take k)+if d[k].2=true then 1 else 0:=by
   unfold IW
   rw[List.take_succ_eq_append_getElem hk,List.filter_append,List.length_append,List.filter_cons]
   split <;> simp
  have hle:IW (d.take k)≤k:=by
   unfold IW
   exact Nat.le_trans (List.length_filter_le _ _) (by rw[List.length_take];omega)
  have GC:=iO (k:=IW (d.take k)) (by omega)
  rw[hh]
  have Yw:=mH d[k] (List.getElem_mem hk)
  have hL:=le1 ops oT ho Xj d dv hd hld rest G k hk
  generalize IW (d.take k)=n at*
  generalize hy:d[k].2=y at*
  cases y
  ·simp(maxDischargeDepth:=6) only[qA,seval,gd,CN,K,I,r,XS,O,X,Z]
   generalize hD:DC pE 189 (.loop CM) _=D
   obtain⟨f2,l2,s2,rfl,⟨rfl,rfl,U⟩,nw⟩:=Cq NY hD (hL (Yw rfl) _ _ _ (by simp only[qA,seval,K,h8]) (by simp only[qA,seval,K,I]) (by simp only[qA,seval,r]) (by simp only[qA,seval]) (by simp only[qA,seval]) XS)
   have V:an f2 21= .i .i64 (n:Int):=by rw[nw 21 (by decide)];simp only[qA,seval,F]
   have W:an f2 22= .i .i64 (k:Int):=by rw[nw 22 (by decide)];simp only[qA,seval,r]
   clear hD
   simp(maxDischargeDepth:=6) only[qA,seval,gd,U,W,V,Y]
  ·simp(maxDischargeDepth:=6) only[qA,seval,gd,CN,K,I,r,F,XS,O,X,Z,Y,GC]
 ·rintro f l s K ⟨r,rfl,rfl,F⟩
  rw[List.take_length]at F
  simp only[qA,seval,gd,CN,K,I,XS,O,r,Int.lt_irrefl]
  exact F
end
section
variable(t:Tt)(c:Ct)(zT aT fT a7 a8 a9 iq iy iv:T)(hT:uf t zT aT fT)(hC:um c a7 a8 a9 iq iy iv)(hA:M4 c)(hk:uq t c=0)(ops:List Int)(oT:T)(ho:IsSl oT ops.length (ints ops))(Xj:ops.length≤1000)(H:Nat)(out:List Lg)(v:T)(hv:Nn out v)(wD:out.length≤1000000000)
 (hg: ∀g∈out,tN c t.fl g.du=0∧Ng t c g.du=true∧g=zu t c g.du∧IW g.du≤H∧ ∀k∈g.du,k.2=false→k.1∈ops) (YZ:NR out)
include hT hC hA hk ho Xj hv wD hg YZ
theorem le3(fr:Fr)(lh:iw b8)(sh:List b8)(h1:an fr 1= .i .i64 (H:Int))(h5:an fr 5= .ptr .L 5 1 0)(h6:an fr 6= .ptr .L 6 1 0)(h8:an fr 8=oT)(h9:an fr 9=v)(h11:an fr 11= .i .i64 0)(o5:b7 lh 5=⟨1,.cells [zT,aT,fT] 0 true⟩)(o6:b7 lh 6=⟨1,.cells (jz c a7 a8 a9 iq iy iv) 0 true⟩):
  Lp pE 189 FT fr lh sh (.ext 0) fun f l s=>True:=by
 have hz:=fzA t c zT aT fT a7 a8 a9 iq iy iv hT hC
 obtain⟨cs,i1,X⟩:=hv
 have mF:=i1.lenI
 refine kE N4 (fun k f l s=>an f 11= .i .i64 (k:Int)∧b7 l 5=⟨1,.cells [zT,aT,fT] 0 true⟩∧b7 l 6=⟨1,.cells (jz c a7 a8 a9 iq iy iv) 0 true⟩) out.length ⟨h11,o5,o6⟩ ?_ ?_
 ·rintro k f l s Y K ⟨r,q5,q6⟩
  have hki:(k:Int)<out.length:=by omega
  have hw:=iO (k:=k) (by omega)
  have Hk:wr .i64 ((k:Int)-1)=(k:Int)-1:=jw (by omega)
  obtain⟨ca,ra,ea,va⟩:=X.drop Sq.len k Y
  have ia:=fun kk=>i1.ia (sz:=7) (k:=k) (kk:=kk) (X.len Sq.len) Y
  rw[ea]at ia
  unfold Sq at va
  subst va
  obtain⟨hE,sP,Z,hh,mH⟩:=hg out[k] (List.getElem_mem Y)
  obtain⟨d1,d6,_,_⟩:=zw hE
  have hd:IsSl (.sl (oE out[k].du) out[k].du.length false) out[k].du.length (oE out[k].du):= .inr ⟨_,rfl⟩
  have e1:=adD t c zT aT fT a7 a8 a9 iq iy iv hT hC hA hk out[k].du _ (GG.of hd) (by omega)
  obtain⟨e2,e3,e4⟩:=YU t c zT aT fT a7 a8 a9 iq iy iv hT hC hA hk out[k].du _ (GG.of hd) (by omega) hE
  rw[if_pos hE,(YQ _ _).2 sP]at e1
  have e1:be pE 13 [.agg [zT,aT,fT],.agg (jz c a7 a8 a9 iq iy iv),.sl (oE out[k].du) out[k].du.length false] []=some (.tup [.nilsl,.i .i64 0],[]):=e1
  have c1:zr (jS t c out[k].du) (ZN c)=out[k].co:=(congrArg Lg.co Z).symm
  have c2:uT (jS t c out[k].du) (crS c)=out[k].cr:=(congrArg Lg.cr Z).symm
  have c3:xz c (l8 t.fl out[k].du 0)=out[k].rp:=(congrArg Lg.rp Z).symm
  have c4:xD c (l8 t.fl out[k].du (out[k].du.length-1))=out[k].rl:=(congrArg Lg.rl Z).symm
  rw[c1]at e2
  rw[c2]at e3
  rw[c3,c4]at e4
  have hL:=fun G rest=>le2 ops oT ho Xj out[k].du _ hd (by omega) rest G mH
  have auA: ∀j,k=j+1→ ∃du rr,froz (T.sl (oE du) du.length false)=true∧(∀kk,lR v (.i kk ((k:Int)-1)) 7=some (.vp (.sl (oE du) du.length false::rr)))∧be pE 14 [.sl (oE du) du.length false,.sl (oE out[k].du) out[k].du.length false] []=some (.i .i64 (A6 du out[k].du),[])∧ ¬(0:Int)≤A6 du out[k].du:=by
   intro j F
   subst F
   have F:j<out.length:=by omega
   obtain⟨cb,rb,eb,vb⟩:=X.drop Sq.len j F
   have ib:=fun kk=>i1.ia (sz:=7) (k:=j) (kk:=kk) (X.len Sq.len) F
   rw[eb]at ib
   unfold Sq at vb
   subst vb
   obtain⟨hE',_⟩:=hg out[j] (List.getElem_mem F)
   obtain⟨_,d6',_,_⟩:=zw hE'
   have nR:=(List.pairwise_iff_getElem.1 YZ) j (j+1) F Y (by omega)
   refine⟨out[j].du,[.i .i64 out[j].rp,.i .i64 out[j].rl,.s out[j].fr,.s out[j].to,.i .i64 out[j].co,.i .i64 out[j].cr]++rb,rfl,fun kk=> ?_,akN out[j].du out[j+1].du _ _ (.inr ⟨_,rfl⟩) hd (by omega) (by omega),by omega⟩
   rw[show((j+1:Nat):Int)-1=(j:Int)by omega,ib]
   rfl
  have Qb:froz (T.sl (oE out[k].du) out[k].du.length false)=true:=rfl
  have aBF:froz1 (T.sl (oE out[k].du) out[k].du.length false)=true:=rfl
  obtain⟨G,hG⟩: ∃G,(b7 l 12).g+1=G:=⟨_,rfl⟩
  obtain⟨G',hG'⟩: ∃G,(b7 l 19).g+1=G:=⟨_,rfl⟩
  have hH: ¬(H:Int)<(IW out[k].du:Int):=by omega
  unfold sV at ia
  generalize out[k].co=x1 at*
  generalize out[k].cr=x2 at*
  generalize out[k].rp=x3 at*
  generalize out[k].rl=x4 at*
  generalize out[k].fr=x5 at*
  generalize out[k].to=x6 at*
  generalize K5:T.sl (oE out[k].du) out[k].du.length false=dv at*
  unfold jz at*
  simp(maxDischargeDepth:=6) only[qA,mc,seval,gd,FT,K,h1,h5,h6,h8,h9,r,q5,q6,mF,hki,ia,e1,e2,e3,e4,hz,aw9,axc,axd,axe,Qb,aBF,hG,hG',eq_self,decide_true,Bool.not_true]
  generalize hD:DC pE 189 (.loop CN) _=D
  obtain⟨f2,l2,s2,rfl,⟨Fh,rfl,O⟩,U⟩:=Cq NZ hD (hL G [.i .i64 x3,.i .i64 x4,.s x5,.s x6,.i .i64 x1,.i .i64 x2] _ _ _ (by simp only[qA,seval,K,h8]) (by simp only[qA,seval]) (by simp only[qA,seval]) (by simp only[qA,seval]) (by simp only[qA,seval]))
  have p1:an f2 1= .i .i64 (H:Int):=by rw[U 1 (by decide)];simp only[qA,seval,K,h1]
  have p9:an f2 9=v:=by rw[U 9 (by decide)];simp only[qA,seval,K,h9]
  have V:an f2 11= .i .i64 (k:Int):=by rw[U 11 (by decide)];simp only[qA,seval,r]
  have W:an f2 12= .ptr .L 12 G 0:=by rw[U 12 (by decide)];simp only[qA,seval]
  have t5:b7 l2 5=⟨1,.cells [zT,aT,fT] 0 true⟩:=by rw[Fh];simp only[qA,seval,q5]
  have t6:b7 l2 6=⟨1,.cells [.i .i64 c.rp,.i .i64 c.rl,.i .i64 c.cn,.i .i64 c.st,.i .i64 c.ly,.i .i64 c.nf,.i .i64 c.nt,a7,a8,a9,iq,iy,iv,.i .i64 c.gu] 0 true⟩:=by rw[Fh];simp only[qA,seval,q6]
  have t12:b7 l2 12=⟨G,.cells [dv,.i .i64 x3,.i .i64 x4,.s x5,.s x6,.i .i64 x1,.i .i64 x2] 0 true⟩:=by rw[Fh];simp only[qA,seval]
  clear hD Fh U
  rcases Nat.eq_zero_or_pos k with LX|LX
  ·have I: ¬(0:Int)<(k:Int):=by omega
   simp(maxDischargeDepth:=6) only[qA,jG,sN,seval,gd,iE,p1,p9,V,W,O,hH,I,hw,t5,t6]
  ·obtain⟨j,F⟩: ∃j,k=j+1:=⟨k-1,by omega⟩
   obtain⟨du,rr,z1,z2,z3,z4⟩:=auA j F
   have I:(0:Int)<(k:Int):=by omega
   simp(maxDischargeDepth:=6) only[qA,jG,sN,seval,gd,iE,p1,p9,V,W,O,hH,I,hw,Hk,t5,t6,t12,z1,z2,z3,z4,Qb,axa,axb]
 ·rintro f l s K ⟨r,q5,q6⟩
  simp only[qA,seval,gd,FT,K,h9,mF,r,Int.lt_irrefl]
end
theorem adF{c:Ct}{i:List Fl}{d:List (Int×Bool)}(F:1≤d.length)(I:d.length≤6)(r: ∀k∈d,xq i.length k.1=true)(D:LV c i d=true):tN c i d=0:=by
 unfold tN
 rw[if_neg (by omega),if_neg (by omega),if_pos (List.all_eq_true.2 r),if_pos D]
theorem adG(t:Tt)(c:Ct)(ops:List Int)(H:Nat)(g:Lg):g∈qo t.fl.length (jn c t.fl) (oB ops) (Ng t c) (zu t c) H↔ ∃d,g=zu t c d∧tN c t.fl d=0∧Ng t c d=true∧IW d≤H∧ ∀k∈d,k.2=false→k.1∈ops:=by
 rw[akO _ _ _ _ _ (H6 t c)]
 constructor
 ·rintro⟨f,y,Z,i,F,K,O,rfl⟩
  obtain⟨I,r,D⟩:=Qd i
  refine⟨y,rfl,adF I F r (YW c t.fl i),O,K,fun k hk hb=> ?_⟩
  have h:=D k hk hb
  obtain⟨n,_,e⟩:=xt (r k hk)
  unfold oB at h
  rw[decide_eq_true_eq,e]at h
  rw[e]
  exact h
 ·rintro⟨d,rfl,U,V,W,X⟩
  obtain⟨I,r,D,Y⟩:=zw U
  obtain⟨f,i,F⟩:=YX (iC:=oB ops) c t.fl d I D (fun k hk hb=>by
   have h:=X k hk hb
   obtain⟨n,_,e⟩:=xt (D k hk)
   unfold oB
   rw[decide_eq_true_eq,e]
   rw[e]at h
   exact h) Y
  exact⟨f,d,i,F,r,W,V,rfl⟩
theorem auB(xs:List Int)(k:Nat→Nat)(hk: ∀i,k i≤2)(r:List Ru)(D:List Co)(cr:List Ex)(F:r.Sublist l0)(I:D.Sublist pb)(K: ∀x∈cr,x∈Ii)(O:cr.length≤1):uq (wo (tA xs)) (Cy k r D cr)=0:=by
 have hc:=Nz k hk r D cr F I K O
 unfold uq
 rw[Ym]
 simpa using hc
theorem WE(I:T)(xs:List Int)(hl:IsSl I xs.length (ints xs))(H0:Int): ∃s,be pE 6 [I,.i .i64 H0] []=some (.b true,s):=by
 have r:=adB xs I hl
 have K:=hl.froz
 obtain⟨s4,O⟩:=Yi
 have hn:=tT (tA xs)
 have wH:=vR (tA xs)
 have hT:=af6 (wu xs)
 have zf:=(Iv xs).froz1
 have zo:=(vW xs).froz1
 have U:=(vW xs).froz
 have ho:IsSl (oTB xs) (PT (oA xs) (uw (tA xs))).length (ints (PT (oA xs) (uw (tA xs)))):=by
  have:=vW xs
  unfold PT
  rw[List.length_map]
  exact this
 have Xj:=PV (oA xs) (uw (tA xs))
 unfold qp at r
 unfold rO at hT r
 have V:=lB (fun i=>decide (wu xs (7+i)%4=0)) 0 l0
 have W:=lB (fun i=>decide (wu xs (30+i)%3=0)) 0 pb
 obtain⟨X,r4⟩:=Eu (wu xs)
 have hk:=Yo (wu xs)
 obtain⟨h,hh,h2⟩: ∃h:Nat,H0%4%3=(h:Int)∧h≤2:=⟨(H0%4%3).toNat,by omega,by omega⟩
 have ht:(H0%4).tmod 3=(h:Int):=by rw[lE (by omega),hh]
 obtain⟨v,s1,e1,Y⟩:=enC xs _ hk _ _ _ V W X r4 _ _ _ _ .nilsl .nilsl hT h h2
 have Bn:=auB xs _ hk _ _ _ V W X r4
 have hA:=YK _ hk _ _ _ V W X
 have Z:=fun g hg=>(adG (wo (tA xs)) (Cy (kB (wu xs)) (j0 (fun i=>decide (wu xs (7+i)%4=0)) 0 l0) (j0 (fun i=>decide (wu xs (30+i)%3=0)) 0 pb) (ZR (wu xs))) (PT (oA xs) (uw (tA xs))) h g).1 hg
 rw[wH]at Z
 have YZ:=adE (uw (tA xs)) (jn (Cy (kB (wu xs)) (j0 (fun i=>decide (wu xs (7+i)%4=0)) 0 l0) (j0 (fun i=>decide (wu xs (30+i)%3=0)) 0 pb) (ZR (wu xs))) (wo (tA xs)).fl) (oB (PT (oA xs) (uw (tA xs)))) (Ng (wo (tA xs)) (Cy (kB (wu xs)) (j0 (fun i=>decide (wu xs (7+i)%4=0)) 0 l0) (j0 (fun i=>decide (wu xs (30+i)%3=0)) 0 pb) (ZR (wu xs)))) _ (H6 (wo (tA xs)) (Cy (kB (wu xs)) (j0 (fun i=>decide (wu xs (7+i)%4=0)) 0 l0) (j0 (fun i=>decide (wu xs (30+i)%3=0)) 0 pb) (ZR (wu xs)))) h
 have hL:=le3 (wo (tA xs)) _ FM FN (Tg xs) _ _ _ _ _ _ (af8 xs) hT hA Bn _ _ ho (by omega) h _ v Y (Yg _ _ _ _ _ (by omega) _) (fun g hg=>by
  obtain⟨d,rfl,q1,q2,q3,q4⟩:=Z g hg
  exact⟨q1,q2,rfl,q3,q4⟩) YZ
 have zv:froz1 v=true:=Y.choose_spec.1.froz1
 clear Z YZ Y Bn hA
 have FO:(qp (wu xs)).all froz1=true:=by
  unfold qp jz Tf Lz
  repeat' split
  all_goals rfl
 unfold qp rO at FO
 unfold jz at*
 simp only[List.all_cons,Bool.and_eq_true]at FO
 obtain⟨_,_,_,_,_,_,_,z7,z8,z9,z10,z11,z12,_⟩:=FO
 have z1:froz1 FM=true:=rfl
 have z2:froz1 FN=true:=rfl
 have z3:froz1 baT=true:=rfl
 generalize Tf (wu xs)=a7 at*
 generalize Cy (kB (wu xs)) _ _ _=F at*
 generalize Lz F.ru.length (F.ru.flatMap px)=a8 at*
 generalize Lz F.co.length (F.co.flatMap ve)=a9 at*
 generalize Lz F.cr.length (F.cr.flatMap nL)=iq at*
 generalize Tg xs=fT at*
 generalize oTB xs=oT at*
 generalize FM=zT at*
 generalize FN=aT at*
 generalize baT=bT at*
 rw[il fn6 (by simp[c6])]
 simp(maxDischargeDepth:=6) only[qA,seval,c6,r,dc7,dc8,K,zf,zo,U,z1,z2,z3,z7,z8,z9,z10,ht,e1,zv]
 generalize hD:DC pE 189 (.loop FT) _=D
 obtain⟨f2,l2,s2,rfl,_,nw⟩:=Cq N4 hD (hL _ _ _ (by simp only[qA,seval]) (by simp only[qA,seval]) (by simp only[qA,seval]) (by simp only[qA,seval]) (by simp only[qA,seval]) (by simp only[qA,seval]) (by simp only[qA,seval]) (by simp only[qA,seval]))
 clear hD nw hL
 simp(maxDischargeDepth:=6) only[qA,seval,O,aw8,asz]
end Go.Proofs.YtcpceiclnbmgiaaGreat
