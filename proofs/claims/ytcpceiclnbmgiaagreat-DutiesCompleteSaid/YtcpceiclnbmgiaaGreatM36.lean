/- Walks of functions of the program and of the reference, and their plain laws, part 36. Conditions: the theorems' own. -/
import Derived.Test.YtcpceiclnbmgiaaGreatM35
import Derived.KernelRfl
set_option maxRecDepth 100000
set_option linter.unusedSimpArgs false
set_option linter.unusedVariables false
set_option maxHeartbeats 16000000
namespace Go.Proofs.YtcpceiclnbmgiaaGreat
open Go Go.Ev
def LW(ops:List Int)(d:List (Int×Bool)):Prop:= ∀q∈d,q.2=false→q.1∈ops
def TG(ops:List Int)(d:List (Int×Bool))(n:Int):Prop:=(LW ops d→n=Qu d)∧(¬LW ops d→99≤n)∧0≤n∧n≤99+d.length
theorem LX(d:List (Int×Bool))(q:Int×Bool):Qu (d++ [q])=Qu d+if q.2=true then 1 else 0:=by
 unfold Qu
 rw[List.filter_append,List.length_append,List.filter_cons]
 split <;> simp
theorem Bn(ops:List Int)(d:List (Int×Bool))(q:Int×Bool):LW ops (d++ [q])↔LW ops d∧(q.2=false→q.1∈ops):=by
 unfold LW
 simp[List.mem_append,or_imp,forall_and]
theorem agz{ops:List Int}{d:List (Int×Bool)}{n:Int}(x:Int)(h:TG ops d n):TG ops (d++ [(x,true)]) (n+1):=by
 obtain⟨i,r,F,H⟩:=h
 unfold TG
 rw[Bn,LX,List.length_append,List.length_singleton]
 refine⟨fun h=> ?_,fun h=> ?_,by omega,by omega⟩
 ·rw[i h.1];simp
 ·have:=r fun D=>h ⟨D,fun h=>Bool.noConfusion h⟩
  omega
theorem agA{ops:List Int}{d:List (Int×Bool)}{n:Int}{x:Int}(hx:x∈ops)(h:TG ops d n):TG ops (d++ [(x,false)]) n:=by
 obtain⟨i,r,F,H⟩:=h
 unfold TG
 rw[Bn,LX,List.length_append,List.length_singleton]
 refine⟨fun h=> ?_,fun h=>r fun D=>h ⟨D,fun _=>hx⟩,by omega,by omega⟩
 rw[i h.1];simp
theorem agB{ops:List Int}{d:List (Int×Bool)}{x:Int}(hx:x∉ops):TG ops (d++ [(x,false)]) 99:=by
 unfold TG
 rw[Bn]
 exact⟨fun h=>absurd (h.2 rfl) hx,fun _=>by omega,by omega,by omega⟩
theorem Zg(d:List (Int×Bool))(x:Int)(b:Bool):oD (d++ [(x,b)])=oD d++ [.i .i64 x,.b b]:=by
 rw[Ig];rfl
section
variable(t:Tt)(c:Ct)(zT aT fT a7 a8 a9 iv iy iw:T)(hT:sZ t zT aT fT)(hC:tp c a7 a8 a9 iv iy iw)(hN:t.fl.length≤1000)(hN1:1≤t.fl.length)(ops:List Int)(oT:T)(ho:IsSl oT ops.length (ints ops))(Pu:ops.length≤1000)(ts:List Int)(tT:T)(ht:IsSl tT ts.length (ints ts))
def CoS(d:List (Int×Bool))(n:Int)(f:Fr)(l:iq b8):Prop:=jG l (an f 13) 124 2 d.length (oD d)∧(∀q∈d,rS t.fl.length q.1=true)∧an f 14= .i .i64 n∧TG ops d n∧b7 l 7=⟨1,.cells [zT,aT,fT] 0 true⟩∧b7 l 8=⟨1,.cells (jB c a7 a8 a9 iv iy iw) 0 true⟩
include hT hC hN hN1 ho Pu ht
theorem co4(fr:Fr)(lh:iq b8)(sh:List b8)(h1:an fr 1=tT)(h7:an fr 7= .ptr .L 7 1 0)(h8:an fr 8= .ptr .L 8 1 0)(r:an fr 10=oT)(qf:an fr 13= .nilsl)(jH:an fr 14= .i .i64 0)(qv:an fr 15= .i .i64 0)(o7:b7 lh 7=⟨1,.cells [zT,aT,fT] 0 true⟩)(o8:b7 lh 8=⟨1,.cells (jB c a7 a8 a9 iv iy iw) 0 true⟩):
  Lp pE 167 wJ fr lh sh (.ext 0) fun f l s=>s=sh∧ ∃d n,d.length≤5∧CoS t c zT aT fT a7 a8 a9 iv iy iw ops d n f l:=by
 have mf:=ht.lenI
 obtain⟨fc,f1,f2⟩:=id hT.f
 have hlF:=f1.lenI
 have hz:=fzA t c zT aT fT a7 a8 a9 iv iy iw hT hC
 refine ky Ou (fun k f l s=>an f 15= .i .i64 (k:Int)∧s=sh∧ ∃d n,d.length=k∧CoS t c zT aT fT a7 a8 a9 iv iy iw ops d n f l) (min ts.length 5) ⟨qv,rfl,[],0,rfl,by rw[qf];exact jG.nil,by simp,jH,⟨fun _=>rfl,fun h=>absurd (by intro q hq;cases hq) h,by omega,by omega⟩,o7,o8⟩ ?_ ?_
 ·rintro k f l _ hk H ⟨F,rfl,d,n,hdk,hO,tn,IJ,U,q7,q8⟩
  have hk1:(k:Int)<ts.length:=by omega
  have hk5:(k:Int)<5:=by omega
  have hw:=iN (k:=k) (by omega)
  obtain⟨r1,hit⟩:=ints_at ht k (by omega)
  have Z8:wr .i64 (n+1)=n+1:=js (by have:=U.2.2;omega)
  have V: ¬(t.fl.length:Int)=0:=by omega
  obtain⟨x,t1,hx⟩: ∃x,(ts[k]%65536).tmod (t.fl.length:Int)=x∧rS t.fl.length x=true:=by
   refine⟨_,lr (by omega), ?_⟩
   unfold rS
   rw[decide_eq_true_eq]
   exact⟨Int.emod_nonneg _ V,Int.emod_lt_of_pos _ (by omega)⟩
  obtain⟨y,t2⟩: ∃y,(ts[k]%65536/256).tmod 4=y:=⟨_,rfl⟩
  obtain⟨G,hG⟩: ∃G,(b7 l 17).g+1=G:=⟨_,rfl⟩
  have K:=fun(x:Int) (b:Bool) (iR:iq b8) (iT:List b8) (e:b7 iR 124=b7 l 124)=>m6 (sh:=iT) (hO.congr e) [.i .i64 x,.b b] rfl (bytes:=16) (by unfold roomy;omega) true
  have ux:=hO.notS
  have N: ∀(x:Int) (b:Bool) (n':Int) (f':Fr) (L0:iq b8) (iT:List b8),rS t.fl.length x=true→TG ops (d++ [(x,b)]) n'→b7 L0 124=b7 l 124→b7 L0 7=b7 l 7→b7 L0 8=b7 l 8→an f' 13=nxV L0 iT 124 2 16 (an f 13) (.sl [.i .i64 x,.b b] 1 true)→an f' 14= .i .i64 n'→ ∃d' n',d'.length=k+1∧CoS t c zT aT fT a7 a8 a9 iv iy iw ops d' n' f' (WS L0 iT 124 2 16 (an f 13) (.sl [.i .i64 x,.b b] 1 true)):=by
   intro x b n' f' L0 iT q1 q2 q3 q4 q5 q6 q8'
   obtain⟨_,k1,k2⟩:=K x b L0 iT q3
   refine⟨d++ [(x,b)],n',by rw[List.length_append,hdk];rfl, ?_, ?_,q8',q2, ?_, ?_⟩
   ·rw[Zg,List.length_append,q6];exact k1
   ·intro q hq
    rcases List.mem_append.1 hq with hq|hq
    ·exact tn q hq
    ·rw[List.mem_singleton.1 hq];exact q1
   ·rw[k2 7 (by decide),q4,q7]
   ·rw[k2 8 (by decide),q5,q8]
  have K:=fun x b iR iT e=>(K x b iR iT e).1
  generalize I:an f 13=V13 at*
  rcases Nat.eq_zero_or_pos k with Ml|Ml
  ·have LY: ¬(0:Int)<(k:Int):=by omega
   by_cases hb:y=0
   ·simp(maxDischargeDepth:=6) only[qA,lj,seval,gd,repl,wJ,H,h1,h7,h8,F,IJ,q7,q8,mf,hlF,hk1,hk5,hit,V,t1,t2,hG,Z8,hw,K,ux,I,LY,hb]
    exact N x true (n+1) _ _ _ hx (agz x U) (by simp only[qA,seval]) (by simp only[qA,seval]) (by simp only[qA,seval]) (by simp only[qA,seval]) (by simp only[qA,seval])
   ·simp(maxDischargeDepth:=6) only[qA,lj,seval,gd,repl,wJ,H,h1,h7,h8,F,IJ,q7,q8,mf,hlF,hk1,hk5,hit,V,t1,t2,hG,Z8,hw,K,ux,I,LY,hb]
    generalize W:DC pE 167 (.loop xZ) _=D
    obtain⟨f2,l2,s2,rfl,⟨Cm,rfl,EI⟩,X⟩:=Ba Hg W (co2 ops oT ho Pu x (.b false) G _ _ _ (by simp only[qA,seval,H,r,I,IJ,F]) (by simp only[qA,seval,H,r,I,IJ,F]) (by simp only[qA,seval]) (by simp only[qA,seval]) (by simp only[qA,seval,H,r,I,IJ,F]))
    have TH:an f2 13=V13:=by rw[X 13 (by decide)];simp only[qA,seval,H,r,I,IJ,F]
    have S6:an f2 14= .i .i64 n:=by rw[X 14 (by decide)];simp only[qA,seval,H,r,I,IJ,F]
    have TI:an f2 15= .i .i64 (k:Int):=by rw[X 15 (by decide)];simp only[qA,seval,H,r,I,IJ,F]
    have TJ:an f2 17= .ptr .L 17 G 0:=by rw[X 17 (by decide)];simp only[qA,seval,H,r,I,IJ,F]
    have u17:b7 l2 17=⟨G,.cells [.i .i64 x,.b false] 0 true⟩:=by rw[Cm];simp only[qA,seval,H,r,I,IJ,F]
    have ad0:b7 l2 124=b7 l 124:=by rw[Cm];simp only[qA,seval,H,r,I,IJ,F]
    have u7:b7 l2 7=b7 l 7:=by rw[Cm];simp only[qA,seval,H,r,I,IJ,F]
    have u8:b7 l2 8=b7 l 8:=by rw[Cm];simp only[qA,seval,H,r,I,IJ,F]
    clear W Cm X
    by_cases my:x∈ops
    ·rw[decide_eq_true my]at EI
     simp(maxDischargeDepth:=6) only[qA,lj,seval,gd,repl,TH,S6,TI,TJ,u17,Z8,hw,K,ux,EI,ad0]
     exact N x false n _ _ _ hx (agA my U) ad0 u7 u8 (by simp only[qA,seval]) (by simp only[qA,seval,S6])
    ·rw[decide_eq_false my]at EI
     simp(maxDischargeDepth:=6) only[qA,lj,seval,gd,repl,TH,S6,TI,TJ,u17,Z8,hw,K,ux,EI,ad0]
     exact N x false 99 _ _ _ hx (agB my) ad0 u7 u8 (by simp only[qA,seval]) (by simp only[qA,seval])
  ·have LY:(0:Int)<(k:Int):=by omega
   obtain⟨i,hi⟩: ∃i,i+1=d.length:=⟨k-1,by omega⟩
   have hli:i<d.length:=by omega
   have Y:=Qx d i hli
   have hwi:wr .i64 ((k:Int)-1)=(i:Int):=by rw[js (by omega)];omega
   have hfi:=tn d[i] (List.getElem_mem hli)
   have Bf:wr .i64 (d[i].1+1)=d[i].1+1:=js (by
    unfold rS at hfi
    rw[decide_eq_true_eq]at hfi
    omega)
   rcases id hO with⟨h0,_⟩|⟨g,wm,hv,S5,_,_⟩
   ·omega
   have hL:=fun hd=>co3 t c zT aT fT a7 a8 a9 iv iy iw hT hC hN i d hi (by omega) hfi g wm G hd
   have hii:(0:Int)≤(i:Int):=by omega
   have hkd:(k:Int)=(d.length:Int):=by omega
   by_cases hb:y=0
   ·simp(maxDischargeDepth:=6) only[qA,lj,seval,gd,repl,wJ,H,h1,h7,h8,F,IJ,q7,q8,mf,hlF,hk1,hk5,hit,V,t1,t2,hG,Z8,hw,K,ux,I,hv,LY,hb,hwi,hli,hii,S5,Y,Bf]
    generalize W:DC pE 167 (.loop C6) _=D
    obtain⟨Z,l3,s3,rfl,⟨rfl,⟨x',O,AU⟩,nl⟩,CN⟩:=Ba Hh W (hL (.b true) _ _ _ (by simp only[qA,seval,H,h7]) (by simp only[qA,seval,H,h8]) (by simp only[qA,seval,I,hv]) (by simp only[qA,seval,F,hkd]) (by simp only[qA,seval]) (by simp only[qA,seval]) (by simp only[qA,seval,q7]) (by simp only[qA,seval,q8]) (by simp only[qA,seval,S5]) ⟨x,by simp only[qA,seval],hx⟩)
    have TH:an Z 13=V13:=by rw[CN 13 (by decide)];simp only[qA,seval,I]
    have S6:an Z 14= .i .i64 n:=by rw[CN 14 (by decide)];simp only[qA,seval,IJ]
    have TI:an Z 15= .i .i64 (k:Int):=by rw[CN 15 (by decide)];simp only[qA,seval,F]
    have TJ:an Z 17= .ptr .L 17 G 0:=by rw[CN 17 (by decide)];simp only[qA,seval]
    have J:an Z 10=oT:=by rw[CN 10 (by decide)];simp only[qA,seval,H,r]
    have LZ:b7 l3 124=b7 l 124:=(nl 124 (by decide)).trans (by simp only[qA,seval])
    have y7:b7 l3 7=b7 l 7:=(nl 7 (by decide)).trans (by simp only[qA,seval])
    have y8:b7 l3 8=b7 l 8:=(nl 8 (by decide)).trans (by simp only[qA,seval])
    clear W CN nl hL
    simp(maxDischargeDepth:=6) only[qA,lj,seval,gd,repl,TH,S6,TI,TJ,O,Z8,hw,K,ux,LZ]
    exact N x' true (n+1) _ _ _ AU (agz x' U) LZ y7 y8 (by simp only[qA,seval]) (by simp only[qA,seval])
   ·simp(maxDischargeDepth:=6) only[qA,lj,seval,gd,repl,wJ,H,h1,h7,h8,F,IJ,q7,q8,mf,hlF,hk1,hk5,hit,V,t1,t2,hG,Z8,hw,K,ux,I,hv,LY,hb,hwi,hli,hii,S5,Y,Bf]
    generalize W:DC pE 167 (.loop C6) _=D
    obtain⟨Z,l3,s3,rfl,⟨rfl,⟨x',O,AU⟩,nl⟩,CN⟩:=Ba Hh W (hL (.b false) _ _ _ (by simp only[qA,seval,H,h7]) (by simp only[qA,seval,H,h8]) (by simp only[qA,seval,I,hv]) (by simp only[qA,seval,F,hkd]) (by simp only[qA,seval]) (by simp only[qA,seval]) (by simp only[qA,seval,q7]) (by simp only[qA,seval,q8]) (by simp only[qA,seval,S5]) ⟨x,by simp only[qA,seval],hx⟩)
    have TH:an Z 13=V13:=by rw[CN 13 (by decide)];simp only[qA,seval,I]
    have S6:an Z 14= .i .i64 n:=by rw[CN 14 (by decide)];simp only[qA,seval,IJ]
    have TI:an Z 15= .i .i64 (k:Int):=by rw[CN 15 (by decide)];simp only[qA,seval,F]
    have TJ:an Z 17= .ptr .L 17 G 0:=by rw[CN 17 (by decide)];simp only[qA,seval]
    have J:an Z 10=oT:=by rw[CN 10 (by decide)];simp only[qA,seval,H,r]
    have LZ:b7 l3 124=b7 l 124:=(nl 124 (by decide)).trans (by simp only[qA,seval])
    have y7:b7 l3 7=b7 l 7:=(nl 7 (by decide)).trans (by simp only[qA,seval])
    have y8:b7 l3 8=b7 l 8:=(nl 8 (by decide)).trans (by simp only[qA,seval])
    clear W CN nl hL
    simp(maxDischargeDepth:=6) only[qA,lj,seval,gd,repl,TH,S6,TI,TJ,O,Z8,hw,K,ux,LZ]
    generalize W:DC pE 167 (.loop xZ) _=D
    obtain⟨f2,l2,s2,rfl,⟨rfl,rfl,EI⟩,X⟩:=Ba Hg W (co2 ops oT ho Pu x' (.b false) G _ _ _ (by simp only[qA,seval,J,TH,S6,TI,TJ]) (by simp only[qA,seval,J,TH,S6,TI,TJ]) (by simp only[qA,seval]) (by simp only[qA,seval]) O)
    have t13:an f2 13=V13:=by rw[X 13 (by decide)];simp only[qA,seval,J,TH,S6,TI,TJ]
    have t14:an f2 14= .i .i64 n:=by rw[X 14 (by decide)];simp only[qA,seval,J,TH,S6,TI,TJ]
    have t15:an f2 15= .i .i64 (k:Int):=by rw[X 15 (by decide)];simp only[qA,seval,J,TH,S6,TI,TJ]
    have t17:an f2 17= .ptr .L 17 G 0:=by rw[X 17 (by decide)];simp only[qA,seval,J,TH,S6,TI,TJ]
    clear W X
    by_cases my:x'∈ops
    ·rw[decide_eq_true my]at EI
     simp(maxDischargeDepth:=6) only[qA,lj,seval,gd,repl,t13,t14,t15,t17,O,Z8,hw,K,ux,EI,LZ]
     exact N x' false n _ _ _ AU (agA my U) LZ y7 y8 (by simp only[qA,seval]) (by simp only[qA,seval,t14])
    ·rw[decide_eq_false my]at EI
     simp(maxDischargeDepth:=6) only[qA,lj,seval,gd,repl,t13,t14,t15,t17,O,Z8,hw,K,ux,EI,LZ]
     exact N x' false 99 _ _ _ AU (agB my) LZ y7 y8 (by simp only[qA,seval]) (by simp only[qA,seval])
 ·rintro f l _ H ⟨F,rfl,d,n,hdk,hS⟩
  by_cases h5:ts.length≤5
  ·rw[Nat.min_eq_left h5]at F hdk
   simp(maxDischargeDepth:=6) only[qA,seval,gd,wJ,H,h1,mf,F,Int.lt_irrefl]
   refine⟨d,n,by omega, ?_⟩
   unfold CoS at*
   simp only[qA,seval]
   exact hS
  ·rw[Nat.min_eq_right (by omega)]at F hdk
   have F:an f 15= .i .i64 5:=F
   have h51:(5:Int)<ts.length:=by omega
   simp(maxDischargeDepth:=6) only[qA,seval,gd,wJ,H,h1,mf,F,h51,Int.lt_irrefl]
   refine⟨d,n,by omega, ?_⟩
   unfold CoS at*
   simp only[qA,seval]
   exact hS
end
def F1(i:List Lg)(d:List (Int×Bool)):Bool:=i.any fun g=>decide (Ck g.du d=0)
theorem co1(r:List Lg)(v:T)(hv:Lw r v)(Fo: ∀g∈r,g.du.length≤6)(wq:r.length≤1000000000)(d:List (Int×Bool))(hd:d.length≤5)(X:T)(fr:Fr)(lh:iq b8)(sh:List b8)(Y:jG lh X 124 2 d.length (oD d))(H:an fr 11=v)(Z:an fr 13=X)(J:an fr 24= .b false)(K:an fr 25= .i .i64 0):
  Lp pE 167 C5 fr lh sh (.ext 6) fun f l s=>an f 24= .b (F1 r d):=by
 obtain⟨cs,i1,i2⟩:=hv
 have N:=i1.lenI
 have O:=fun(sh:List b8) (keep:Bool)=>Y.fzV (sh:=sh) (keep:=keep)
 have U:=Y.isl
 refine ky Ot (fun k f l s=>an f 25= .i .i64 (k:Int)∧l=lh∧an f 24= .b (F1 (r.take k) d)) r.length ⟨K,rfl,by rw[J];rfl⟩ ?_ ?_
 ·rintro k f l s hk I ⟨F,rfl,D⟩
  have iX:(k:Int)<r.length:=by omega
  have hw:=iN (k:=k) (by omega)
  obtain⟨ca,ra,ea,va⟩:=i2.drop Z3.len k hk
  have V:=fun kk=>i1.ia (sz:=7) (k:=k) (kk:=kk) (i2.len Z3.len) hk
  rw[ea]at V
  unfold Z3 td at va
  subst va
  have hg:=Fo r[k] (List.getElem_mem hk)
  have e1:=alk r[k].du d _ _ (.inr ⟨false,rfl⟩) U (by omega) (by omega)
  have W:froz (T.sl (oD r[k].du) r[k].du.length false)=true:=rfl
  have I6:F1 (r.take (k+1)) d=(F1 (r.take k) d||decide (Ck r[k].du d=0)):=by
   unfold F1
   rw[List.take_succ_eq_append_getElem hk,List.any_append,List.any_cons,List.any_nil,Bool.or_false]
  rw[I6]
  generalize hE:Ck r[k].du d=E at*
  generalize T.sl (oD r[k].du) r[k].du.length false=dv at*
  generalize F1 (r.take k) d=b at*
  generalize lu d.length (oD d)=ov at*
  cases b
  ·by_cases h0:E=0
   all_goals simp(maxDischargeDepth:=6) only[qA,seval,gd,C5,I,H,Z,F,D,N,iX,V,hw,e1,O,W,axz,h0,Bool.false_or]
  ·simp(maxDischargeDepth:=6) only[qA,seval,gd,C5,I,H,Z,F,D,N,iX,V,hw,Bool.true_or]
 ·rintro f l s I ⟨F,rfl,D⟩
  rw[List.take_length]at D
  simp only[qA,seval,gd,C5,I,H,N,F,Int.lt_irrefl]
  exact D
theorem Ha: ∀{a b:List (Int×Bool)},Bi a b=0→a.length=b.length→a=b
 | [],[],_,_=>rfl
 | [],_::_,_,h=>by simp at h
 |_::_,[],_,h=>by simp at h
 |x::a,y::b,h,r=>by
  rw[Bi]at h
  by_cases hk:Iv x y=0
  ·rw[if_neg (by simp[hk])]at h
   rw[Ha h (by simpa using r)]
   have:x=y:=by
    obtain⟨x1,x2⟩:=x
    obtain⟨D,F⟩:=y
    unfold Iv at hk
    simp only at hk
    by_cases i:x1=D
    ·rw[if_pos i]at hk
     subst i
     cases x2 <;> cases F <;> simp[qm]at hk <;> rfl
    ·rw[if_neg i]at hk
     split at hk <;> omega
   rw[this]
  ·rw[if_pos hk]at h
   exact absurd h hk
theorem Hb{a b:List (Int×Bool)}:Ck a b=0↔a=b:=by
 constructor
 ·intro h
  unfold Ck at h
  by_cases i:Bi a b=0
  ·rw[if_neg (by simp[i])]at h
   refine Ha i ?_
   unfold adu qm at h
   split at h
   ·omega
   ·split at h
    ·cases h
    ·rename_i D r
     simp at r
     omega
  ·rw[if_pos i]at h
   exact absurd h i
 ·rintro rfl
  have:=LV a [] []
  rw[List.append_nil]at this
  rw[this]
  rfl
theorem ad1(t:Tt)(c:Ct)(ops:List Int)(H:Nat)(d:List (Int×Bool)):F1 (pU t.fl.length (jn c t.fl) (nG ops) (FT t c) (ue t c) H) d=true↔uE c t.fl d=0∧FT t c d=true∧Qu d≤H∧LW ops d:=by
 unfold F1
 rw[List.any_eq_true]
 constructor
 ·rintro⟨g,J,i⟩
  rw[decide_eq_true_eq,Hb]at i
  obtain⟨K,rfl,r,D,F,I⟩:=(Qw t c ops H g).1 J
  rw[zJ]at i
  subst i
  exact⟨r,D,F,I⟩
 ·rintro⟨r,D,F,I⟩
  refine⟨ue t c d,(Qw t c ops H _).2 ⟨d,rfl,r,D,F,I⟩, ?_⟩
  rw[decide_eq_true_eq,Hb,zJ]
theorem Zh{lh:iq b8}{v:T}{k sz n:Nat}{cs:List T}(h:jG lh v k sz n cs):jG (Go.Proofs.YtcpceiclnbmgiaaGreat.upL lh (Tl lh v)) v k sz n cs:=by
 rcases h with⟨h0,rfl,rfl⟩|⟨g,wm,rfl,h2,h3,h4⟩
 ·exact .inl ⟨h0,rfl,rfl⟩
 ·refine .inr ⟨g,cs.length,rfl, ?_,h3,h4⟩
  unfold Go.Proofs.YtcpceiclnbmgiaaGreat.upL Tl
  simp only[h2]
  exact vZ _ _ _
theorem ad2{t:Tt}{c:Ct}{ops:List Int}{H:Nat}{d:List (Int×Bool)}{n:Int}(J:H≤2)(r:TG ops d n):F1 (pU t.fl.length (jn c t.fl) (nG ops) (FT t c) (ue t c) H) d=(decide (uE c t.fl d=0)&&(decide (nU (kD t c d) (CJ c)= [])&&decide (n≤H))):=by
 have h:=ad1 t c ops H d
 obtain⟨D,F,K,N⟩:=r
 have I:(nU (kD t c d) (CJ c)= [])↔FT t c d=true:=Zb _ _
 have i:n≤(H:Int)↔Qu d≤H∧LW ops d:=by
  by_cases ho:LW ops d
  ·rw[D ho];constructor
   ·intro h;exact⟨by omega,ho⟩
   ·rintro⟨h,_⟩;omega
  ·have:=F ho
   constructor
   ·intro h;omega
   ·rintro⟨_,h⟩;exact absurd h ho
 rw[Bool.eq_iff_iff,h,Bool.and_eq_true,Bool.and_eq_true,decide_eq_true_eq,decide_eq_true_eq,decide_eq_true_eq,I,i]
theorem acy(la lb:T)(xs ys:List Int)(hl:IsSl la xs.length (ints xs))(Cm:IsSl lb ys.length (ints ys))(H0:Int): ∃s,be pE 5 [la,lb,.i .i64 H0] []=some (.b true,s):=by
 have J:=adU xs la hl
 have hla:=hl.froz
 obtain⟨s4,haw⟩:=YF
 have hn:=ug (tA xs)
 have Fc:2≤tq (tA xs):=by unfold tq;omega
 have tn:=we (tA xs)
 have hT:=agx (pW xs)
 have zf:=(IG xs).froz1
 have zo:=(wj xs).froz1
 have zo':=(wj xs).froz
 have ho:IsSl (oTB xs) (Mq (oA xs) (tq (tA xs))).length (ints (Mq (oA xs) (tq (tA xs)))):=by
  have:=wj xs
  unfold Mq
  rw[List.length_map]
  exact this
 have Pu:=Qf (oA xs) (tq (tA xs))
 unfold qz at J
 unfold rU at hT J
 have r1:=lG (fun i=>decide (pW xs (7+i)%4=0)) 0 lQ
 have r2:=lG (fun i=>decide (pW xs (30+i)%3=0)) 0 n6
 obtain⟨r3,r4⟩:=EP (pW xs)
 have hk:=YL (pW xs)
 obtain⟨h,hh,h2⟩: ∃h:Nat,H0%4%3=(h:Int)∧h≤2:=⟨(H0%4%3).toNat,by omega,by omega⟩
 have ht:(H0%4).tmod 3=(h:Int):=by rw[lr (by omega),hh]
 obtain⟨v,s1,e1,U⟩:=enC xs _ hk _ _ _ r1 r2 r3 r4 _ _ _ _ .nilsl .nilsl hT h h2
 have Bz:=auS xs _ hk _ _ _ r1 r2 r3 r4
 have hA:=Y6 _ hk _ _ _ r1 r2 r3
 have hL4:=co4 (rm (tA xs)) _ Fq Fs (S2 xs) _ _ _ _ _ _ (Y9 xs) hT (by omega) (by omega) _ _ ho (by omega) ys lb Cm
 have zv:froz1 v=true:=U.choose_spec.1.froz1
 rw[←tn]at U
 have K:=adi (rm (tA xs)).fl.length (jn (Ag (kB (pW xs)) (jE (fun i=>decide (pW xs (7+i)%4=0)) 0 lQ) (jE (fun i=>decide (pW xs (30+i)%3=0)) 0 n6) (NU (pW xs))) (rm (tA xs)).fl) (nG (Mq (oA xs) (tq (tA xs)))) (FT (rm (tA xs)) (Ag (kB (pW xs)) (jE (fun i=>decide (pW xs (7+i)%4=0)) 0 lQ) (jE (fun i=>decide (pW xs (30+i)%3=0)) 0 n6) (NU (pW xs)))) _ (zJ (rm (tA xs)) (Ag (kB (pW xs)) (jE (fun i=>decide (pW xs (7+i)%4=0)) 0 lQ) (jE (fun i=>decide (pW xs (30+i)%3=0)) 0 n6) (NU (pW xs)))) h
 have N:=YD (rm (tA xs)).fl.length (jn (Ag (kB (pW xs)) (jE (fun i=>decide (pW xs (7+i)%4=0)) 0 lQ) (jE (fun i=>decide (pW xs (30+i)%3=0)) 0 n6) (NU (pW xs))) (rm (tA xs)).fl) (nG (Mq (oA xs) (tq (tA xs)))) (FT (rm (tA xs)) (Ag (kB (pW xs)) (jE (fun i=>decide (pW xs (7+i)%4=0)) 0 lQ) (jE (fun i=>decide (pW xs (30+i)%3=0)) 0 n6) (NU (pW xs)))) (ue (rm (tA xs)) (Ag (kB (pW xs)) (jE (fun i=>decide (pW xs (7+i)%4=0)) 0 lQ) (jE (fun i=>decide (pW xs (30+i)%3=0)) 0 n6) (NU (pW xs)))) (by omega) h
 have V:=fun d (hd:d.length≤1000)=>adX (rm (tA xs)) (Ag (kB (pW xs)) (jE (fun i=>decide (pW xs (7+i)%4=0)) 0 lQ) (jE (fun i=>decide (pW xs (30+i)%3=0)) 0 n6) (NU (pW xs))) Fq Fs (S2 xs) _ _ _ _ _ _ (Y9 xs) hT hA Bz d (lu d.length (oD d)) (H4.of (mV fun h=>by rw[List.length_eq_zero_iff.1 h];rfl)) hd
 have H:=fun d n (hn:TG (Mq (oA xs) (tq (tA xs))) d n)=>ad2 (t:=rm (tA xs)) (c:=(Ag (kB (pW xs)) (jE (fun i=>decide (pW xs (7+i)%4=0)) 0 lQ) (jE (fun i=>decide (pW xs (30+i)%3=0)) 0 n6) (NU (pW xs)))) (d:=d) h2 hn
 have FY:(qz (pW xs)).all froz1=true:=by
  unfold qz jB TE LR
  repeat' split
  all_goals rfl
 unfold qz rU at FY
 generalize hct:(Ag (kB (pW xs)) (jE (fun i=>decide (pW xs (7+i)%4=0)) 0 lQ) (jE (fun i=>decide (pW xs (30+i)%3=0)) 0 n6) (NU (pW xs)))=F at*
 obtain⟨I,FD⟩: ∃I,pU (rm (tA xs)).fl.length (jn F (rm (tA xs)).fl) (nG (Mq (oA xs) (tq (tA xs)))) (FT (rm (tA xs)) F) (ue (rm (tA xs)) F) h=I:=⟨_,rfl⟩
 rw[tn]at FD U K N
 simp only[tn]at H
 rw[FD]at U K N
 simp only[FD]at H
 clear hct r1 r2 r3 r4 hA Bz
 unfold CoS at hL4
 unfold jB at*
 simp only[List.all_cons,Bool.and_eq_true]at FY
 obtain⟨_,_,_,_,_,_,_,z7,z8,z9,W,z11,z12,_⟩:=FY
 have z1:froz1 Fq=true:=rfl
 have z2:froz1 Fs=true:=rfl
 have z3:froz1 baT=true:=rfl
 generalize TE (pW xs)=a7 at*
 generalize LR F.ru.length (F.ru.flatMap pF)=a8 at*
 generalize LR F.co.length (F.co.flatMap vD)=a9 at*
 generalize LR F.cr.length (F.cr.flatMap nR)=iv at*
 generalize S2 xs=fT at*
 generalize oTB xs=oT at*
 generalize Fq=zT at*
 generalize Fs=aT at*
 generalize baT=bT at*
 rw[il fn5 (by simp[c5])]
 simp(maxDischargeDepth:=6) only[qA,seval,c5,J,dc7,dc8,hla,zf,zo,zo',z1,z2,z3,z7,z8,z9,W,ht,e1,zv]
 generalize X:DC pE 167 (.loop wJ) _=D
 obtain⟨Y,l2,s2,rfl,⟨rfl,d,n,hd5,Z,aIN,IJ,hnk,q7,q8⟩,mM⟩:=Ba Ou X (hL4 _ _ _ (by simp only[qA,seval]) (by simp only[qA,seval]) (by simp only[qA,seval]) (by simp only[qA,seval]) (by simp only[qA,seval]) (by simp only[qA,seval]) (by simp only[qA,seval]) (by simp only[qA,seval]) (by simp only[qA,seval]))
 have p2:an Y 2= .i .i64 (h:Int):=by rw[mM 2 (by decide)];simp only[qA,seval]
 have p7:an Y 7= .ptr .L 7 1 0:=by rw[mM 7 (by decide)];simp only[qA,seval]
 have p8:an Y 8= .ptr .L 8 1 0:=by rw[mM 8 (by decide)];simp only[qA,seval]
 have p11:an Y 11=v:=by rw[mM 11 (by decide)];simp only[qA,seval]
 clear X mM hL4
 have O:=V d (by omega)
 have DO:=H d n hnk
 have hO2:=Zh Z
 have e13:=fun(sh:List b8) (keep:Bool)=>Z.fzV (sh:=sh) (keep:=keep)
 generalize lu d.length (oD d)=ov at O e13
 generalize hrv:an Y 13=rv at*
 generalize uE F (rm (tA xs)).fl d=E at*
 generalize nU (kD (rm (tA xs)) F d) (CJ F)=B at*
 obtain⟨w,E',m,e3,hlw,hzw,hf⟩: ∃(w:T) (E':Int) (m:Nat),be pE 13 [.agg [zT,aT,fT],.agg [.i .i64 F.rp,.i .i64 F.rl,.i .i64 F.cn,.i .i64 F.st,.i .i64 F.ly,.i .i64 F.nf,.i .i64 F.nt,a7,a8,a9,iv,.nilsl,.nilsl,.i .i64 F.gu],ov] []=some (.tup [w,.i .i64 E'],[])∧lenI w=some (.i .i64 (m:Int))∧froz1 w=true∧F1 I d=(decide (E'=0)&&(decide ((m:Int)=0)&&decide (n≤(h:Int)))):=by
  by_cases hE:E=0
  ·rw[if_pos hE]at O
   have hw:IsSl (lu B.length (S3 B)) B.length (S3 B):=mV fun h=>by rw[List.length_eq_zero_iff.1 h];rfl
   refine⟨_,_,B.length,O,hw.lenI,hw.froz1, ?_⟩
   rw[DO,hE]
   have:decide (B= [])=decide ((B.length:Int)=0):=by
    cases B with
    |nil=>rfl
    |cons x r=>simp;omega
   rw[this]
  ·rw[if_neg hE]at O
   exact⟨_,_,0,O,rfl,rfl,by rw[DO,decide_eq_false hE,Bool.false_and,Bool.false_and]⟩
 clear O DO V H
 have hq: ∀x y:Bool,Option.map (fun r=>T.b (r != false)) (uP (EK.one CK.bool) (T.b x) (T.b y))=some (T.b (x==y)):=fun x y=>by cases x <;> cases y <;> rfl
 have FM:=fun fr lh sh Z=>co1 I v U K N d hd5 rv fr lh sh Z
 rw[hf]at FM
 cases hs:pH w
 all_goals by_cases h1:E'=0
 all_goals by_cases h3:(m:Int)=0
 all_goals by_cases h4:n≤(h:Int)
 all_goals
  simp(maxDischargeDepth:=6) only[qA,Ee,lj,seval,p2,p7,p8,p11,hrv,IJ,q7,q8,z1,z2,zf,z7,z8,z9,W,e3,e13,axy,adV,hs,hlw,hzw,h1,h3,h4]
  generalize X:DC pE 167 (.loop C5) _=D
  obtain⟨f3,l3,s3,rfl,g24,CN⟩:=Ba Ot X (FM _ _ _ (by first|exact Z|exact hO2) (by simp only[qA,seval,p11]) (by simp only[qA,seval,hrv]) (by simp only[qA,seval]) (by simp only[qA,seval]))
  have p23:=CN 23 (by decide)
  clear X CN FM
  simp only[qA,seval,h1,h3,h4,decide_true,decide_false]at g24 p23
  simp(maxDischargeDepth:=6) only[qA,seval,g24,p23,hq,haw,axv,beq_self_eq_true,asT]
end Go.Proofs.YtcpceiclnbmgiaaGreat
