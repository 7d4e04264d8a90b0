/- The form of an expression: both checks. The form of an expression: the reference's check, and both results. The type of a node by the types of its arguments: the program's and the reference's. The type of a node by the types of its arguments: the program's and the reference's. Conditions: the theorems' own. -/
import Derived.Test.YtblcbheipjeoeaaGreatM2
import Derived.KernelRfl
set_option maxRecDepth 100000
set_option linter.unusedSimpArgs false
set_option linter.unusedVariables false
set_option maxHeartbeats 16000000
namespace Go.Proofs.YtblcbheipjeoeaaGreat
open Go Go.Ev
theorem Hk: ∀s:List Nat,IH s 46=Cf s
 | []=>rfl
 |c::cs=>by
  rw[IH,Hk cs]
  unfold Cf
  rw[oo]
  by_cases h:c=46
  ·simp[h]
  ·rw[if_neg h,if_neg h]
   cases oo cs with
   |none=>rfl
   |some i=>simp only[Option.map_some];rw[if_neg (by omega)];omega
theorem YG{z:Nat}{fr:Fr}{lh:fC fg}{sh:List fg}{s:List Nat}:gq pE (fj pE) z ⟨fr,lh,sh⟩ 326 [.s s,.s [46]]=some (.i .i64 (Cf s),⟨fr,lh,sh⟩):=by
 rw[Gj (g:=Tc) rfl rfl,tM (by rfl),←Hk]
 rfl
theorem Nb{s:List Nat}{i:Nat}(h:oo s=some i):Cf s=(i:Int):=by unfold Cf;rw[h]
theorem Nc{s:List Nat}(h:oo s=none):Cf s= -1:=by unfold Cf;rw[h]
theorem ajr{s:List Nat}(hd:oo s=none):fj pE 319 [.s s,.s [46]] []=some (.tup [.s s,.s [],.b false],[]):=by
 have h1:fj pE 325 [.s s,.s [46]] []=some (.tup [.s s,.s [],.b false],[]):=by
  rw[fx OU (by simp[HY])]
  simp(maxDischargeDepth:=6) only[qA,seval,sH,HY,YG,Nc hd]
 rw[fx OR (by simp[HX])]
 simp(maxDischargeDepth:=6) only[qA,seval,HX,h1,XV]
theorem ajs{s:List Nat}{i:Nat}(hs:s.length≤kb)(hd:oo s=some i):fj pE 319 [.s s,.s [46]] []=some (.tup [.s (s.take i),.s (s.drop (i+1)),.b true],[]):=by
 have hi:=ED hd
 have h0:(0:Int)≤i:=by omega
 have hw:=mg (k:=i) (by omega)
 have hle:i≤s.length:=by omega
 have BZ:i+1≤s.length:=by omega
 generalize i+1=j at hw BZ ⊢
 have tj:=fun fr x (h:rd fr x= .i .i64 (j:Int))=>Df h BZ
 have yw:=fun fr x (h:rd fr x= .i .i64 (i:Int))=>KQ h hle
 have h1:fj pE 325 [.s s,.s [46]] []=some (.tup [.s (s.take i),.s (s.drop j),.b true],[]):=by
  rw[fx OU (by simp[HY])]
  simp(maxDischargeDepth:=6) only[qA,seval,HY,YG,Nb hd,h0,hw,tj,yw]
 rw[fx OR (by simp[HX])]
 simp(maxDischargeDepth:=6) only[qA,seval,HX,h1,XV]
theorem Ji(s:List Nat)(hs:s.length≤kb):fj pE 301 [.s s] []=some (.b (pv s),[]):=by
 rw[fx XG (by simp[LN])]
 cases hd:oo s with
 |none=>
  rw[yS hd]
  simp(maxDischargeDepth:=6) only[qA,seval,LN,ajr hd,XP,rV,mS]
 |some i=>
  have hc:=ajs hs hd
  rw[yR hd]
  generalize i+1=j at hc ⊢
  cases hn:iX (s.take i) <;> simp(maxDischargeDepth:=6) only[qA,seval,LN,hc,XP,tQ,qG,hn]
mutual
def Ex.sm:Ex→Prop
 | .mk _ _ name args=>name.length≤kb∧YH args
def YH:List Ex→Prop
 | []=>True
 |x::xs=>x.sm∧YH xs
end
theorem Ex.sm_eq(x:Ex):x.sm↔(x.name.length≤kb∧YH x.args):=by obtain⟨_,_,_,_⟩:=x;rw[Ex.sm];rfl
theorem zI: ∀{xs:List Ex},YH xs↔ ∀x∈xs,x.sm
 | []=>by simp[YH]
 |x::xs=>by rw[YH,zI (xs:=xs)];simp
def wfP(y:Ex):Prop:= ∀cs:List T,jY y cs→y.nodes≤100000→y.sm→fj pE 273 [.agg cs] []=some (.b y.wf,[])
theorem Hl{xs:List Ex}{k:Nat}(hk:k<xs.length):sk (xs.drop k)=(xs[k].wf&&sk (xs.drop (k+1))):=by rw[uD hk,sk]
theorem wf1(xs:List Ex)(ih: ∀y∈xs,wfP y)(a:T)(cc:List T)(ha:fD a xs.length cc)(hx:hH xs cc)(hlen:gP xs≤100000)(oh:YH xs)(o:Out)(ho:o=if sk xs then .ext 1 else .ret)(fr:Fr)(lh:fC fg)(sh:List fg)
  (zf:an fr 59=a) (x9:an fr 60= .i .i64 (xs.length:Int)) (zg:an fr 61= .i .i64 0):
  DC pE 69 (.loop nj) ⟨fr,lh,sh⟩=some (o,⟨gr pE 69 nj fr lh sh,gp pE 69 nj fr lh sh,gn pE 69 nj fr lh sh⟩)∧
  ((sk xs=false→an (gr pE 69 nj fr lh sh) 2= .b false)∧gn pE 69 nj fr lh sh=sh):=by
 refine fq (P:=fun fr fH fL=>(sk xs=false→an fr 2= .b false)∧fL=sh) (fw (fun k st=> ∃(fr:Fr) (lh:fC fg),st=⟨fr,lh,sh⟩∧an fr 59=a∧an fr 60= .i .i64 (xs.length:Int)∧an fr 61= .i .i64 (k:Int)∧sk xs=sk (xs.drop k)) _ xs.length ?_ ?_ 0 _ (Nat.zero_le _) ⟨fr,lh,rfl,zf,x9,zg,rfl⟩)
 ·rintro k _ hk ⟨fr,lh,rfl,zf,x9,zg,gz⟩
  have fK:(k:Int)<xs.length:=by omega
  have Gc:=ju xs
  have hyk:=mP (List.getElem_mem hk)
  have hw:=fQ (k:=k) (ku (by omega))
  obtain⟨b,cb,r,fF,iK,oS,hb⟩:=nw ha hx k hk
  have fu:=ih xs[k] (List.getElem_mem hk) _ hb (by omega) (zI.1 oh _ (List.getElem_mem hk))
  rw[Hl hk]at gz
  cases hf:xs[k].wf with
  |true=>
   left
   rw[hf]at fu gz
   simp(maxDischargeDepth:=6) only[qA,seval,nj,zf,x9,zg,fK,fF,hw,fu,OO,iK.froz1]
   refine⟨_,rfl,_,_,rfl, ?_, ?_, ?_,gz⟩ <;> simp(maxDischargeDepth:=6) only[qA,seval,zf,x9]
  |false=>
   right
   rw[hf]at fu gz
   simp(maxDischargeDepth:=6) only[qA,seval,nj,zf,x9,zg,fK,fF,fu,OO,iK.froz1]
   refine⟨_,_,(by simp:Out.ret≠ .nrm),rfl,by rw[ho,gz];rfl,fun _=>by simp(maxDischargeDepth:=6) only[qA,seval],rfl⟩
 ·rintro _ ⟨fr,lh,rfl,zf,x9,zg,gz⟩
  rw[List.drop_length,sk]at gz
  simp(maxDischargeDepth:=6) only[qA,seval,nj,x9,zg,Int.lt_irrefl]
  exact⟨_,_,(by simp:Out.ext 1≠ .nrm),rfl,by rw[ho,gz];rfl,fun hc=>(by rw[gz]at hc;cases hc),rfl⟩
theorem K3{op num:Int}{name:List Nat}{n:Nat}(h:op<1):nE op num name n=false:=by unfold nE;rw[decide_eq_false (by omega)];rfl
theorem K4{op num:Int}{name:List Nat}{n:Nat}(h:22<op):nE op num name n=false:=by unfold nE;rw[decide_eq_false (p:=op≤22) (by omega)];simp
theorem K5{op num:Int}{name:List Nat}{n:Nat}(h1: ¬op<1)(h2: ¬22<op):nE op num name n=(iI op n&&(decide (0≤num∧num≤pz op)&&(if op=6 then pv name else decide (name= [])))):=by
 unfold nE;rw[decide_eq_true (p:=1≤op) (by omega),decide_eq_true (p:=op≤22) (by omega)];rfl
theorem ajt(x:Ex):wfP x:=by
 induction x using Ex.ind with
 |h x ih=>
  intro cs hx hn hs
  obtain⟨a,cc,rfl,ha,Bb⟩:=hx.cells
  rw[fx Xq (by simp[pF]),Ex.wf_eq]
  have hnd:=x.nodes_eq
  obtain⟨tj,yw⟩:=(Ex.sm_eq x).1 hs
  have hL:=fun fr lh sh=>wf1 x.args ih a cc ha Bb (by omega) yw _ rfl fr lh sh
  have mW:=Ji x.name tj
  generalize x.op=op,x.num=num,x.name=name,x.args.length=n at*
  by_cases h1:op<1
  ·rw[K3 h1];simp(maxDischargeDepth:=6) only[qA,seval,pF,h1]
  by_cases h2:(22:Int)<op
  ·rw[K4 h2];simp(maxDischargeDepth:=6) only[qA,seval,pF,h1,h2]
  rw[K5 h1 h2]
  have iA:=Jb op n (by omega) (by omega)
  cases ho:iI op n with
  |false=>
   rw[ho]at iA
   simp(maxDischargeDepth:=6) only[qA,seval,pF,h1,h2,ha.lenI,iA,nO]
  |true=>
   rw[ho]at iA
   have base: ∀b:Bool,(true&&b)=b:=fun b=>by simp
   rw[base]
   by_cases e1:op=1
   ·subst e1
    have hm:pz 1=1099511627776:=rfl
    rw[hm,if_neg (by decide)]
    by_cases n1:num<0
    ·rw[decide_eq_false (by omega)];simp(maxDischargeDepth:=6) only[qA,seval,pF,ha.lenI,iA,nO,n1]
    by_cases n2:(1099511627776:Int)<num
    ·rw[decide_eq_false (fun h=>absurd h.2 (Int.not_le.2 n2))];simp(maxDischargeDepth:=6) only[qA,seval,pF,ha.lenI,iA,nO,n1,n2]
    rw[decide_eq_true (p:=0≤num∧num≤1099511627776) ⟨Int.not_lt.1 n1,Int.not_lt.1 n2⟩,base]
    by_cases e:name= []
    ·rw[decide_eq_true e,base]
     cases hw:sk x.args <;> simp only[hw]at hL <;> simp(maxDischargeDepth:=6) only[qA,seval,pF,ha.lenI,iA,nO,n1,n2,e,hL]
    ·rw[decide_eq_false e];simp(maxDischargeDepth:=6) only[qA,seval,pF,ha.lenI,iA,nO,n1,n2,e]
   by_cases e2:op=2
   ·subst e2
    have hm:pz 2=1099511627776:=rfl
    rw[hm,if_neg (by decide)]
    by_cases n1:num<0
    ·rw[decide_eq_false (by omega)];simp(maxDischargeDepth:=6) only[qA,seval,pF,ha.lenI,iA,nO,n1]
    by_cases n2:(1099511627776:Int)<num
    ·rw[decide_eq_false (fun h=>absurd h.2 (Int.not_le.2 n2))];simp(maxDischargeDepth:=6) only[qA,seval,pF,ha.lenI,iA,nO,n1,n2]
    rw[decide_eq_true (p:=0≤num∧num≤1099511627776) ⟨Int.not_lt.1 n1,Int.not_lt.1 n2⟩,base]
    by_cases e:name= []
    ·rw[decide_eq_true e,base]
     cases hw:sk x.args <;> simp only[hw]at hL <;> simp(maxDischargeDepth:=6) only[qA,seval,pF,ha.lenI,iA,nO,n1,n2,e,hL]
    ·rw[decide_eq_false e];simp(maxDischargeDepth:=6) only[qA,seval,pF,ha.lenI,iA,nO,n1,n2,e]
   by_cases e3:op=3
   ·subst e3
    have hm:pz 3=1439:=rfl
    rw[hm,if_neg (by decide)]
    by_cases n1:num<0
    ·rw[decide_eq_false (by omega)];simp(maxDischargeDepth:=6) only[qA,seval,pF,ha.lenI,iA,nO,n1]
    by_cases n2:(1439:Int)<num
    ·rw[decide_eq_false (fun h=>absurd h.2 (Int.not_le.2 n2))];simp(maxDischargeDepth:=6) only[qA,seval,pF,ha.lenI,iA,nO,n1,n2]
    rw[decide_eq_true (p:=0≤num∧num≤1439) ⟨Int.not_lt.1 n1,Int.not_lt.1 n2⟩,base]
    by_cases e:name= []
    ·rw[decide_eq_true e,base]
     cases hw:sk x.args <;> simp only[hw]at hL <;> simp(maxDischargeDepth:=6) only[qA,seval,pF,ha.lenI,iA,nO,n1,n2,e,hL]
    ·rw[decide_eq_false e];simp(maxDischargeDepth:=6) only[qA,seval,pF,ha.lenI,iA,nO,n1,n2,e]
   have hm:pz op=0:=by unfold pz;rw[if_neg (by omega),if_neg e3]
   rw[hm]
   by_cases n1:num=0
   ·rw[decide_eq_true (p:=0≤num∧num≤0) (by omega),base]
    by_cases e6:op=6
    ·subst e6
     rw[if_pos rfl]
     cases hb:pv name with
     |true=>
      rw[hb]at mW
      cases hw:sk x.args <;> simp only[hw]at hL <;> simp(maxDischargeDepth:=6) only[qA,seval,pF,ha.lenI,iA,nO,n1,mW,XH,hL]
     |false=>
      rw[hb]at mW
      simp(maxDischargeDepth:=6) only[qA,seval,pF,ha.lenI,iA,nO,n1,mW,XH]
    ·rw[if_neg e6]
     by_cases e:name= []
     ·rw[decide_eq_true e,base]
      cases hw:sk x.args <;> simp only[hw]at hL <;> simp(maxDischargeDepth:=6) only[qA,seval,pF,ha.lenI,iA,nO,h1,h2,e1,e2,e3,e6,n1,e,hL]
     ·rw[decide_eq_false e];simp(maxDischargeDepth:=6) only[qA,seval,pF,ha.lenI,iA,nO,h1,h2,e1,e2,e3,e6,n1,e]
   ·rw[decide_eq_false (p:=0≤num∧num≤0) (by omega)]
    simp(maxDischargeDepth:=6) only[qA,seval,pF,ha.lenI,iA,nO,h1,h2,e1,e2,e3,n1]
end Go.Proofs.YtblcbheipjeoeaaGreat
namespace Go.Proofs.YtblcbheipjeoeaaGreat
open Go Go.Ev
def ndP(y:Ex):Prop:= ∀cs:List T,jY y cs→y.nodes≤200→y.sm→fj pE 261 [.agg cs] []=some (.b y.wf,[])
theorem nd1(xs:List Ex)(ih: ∀y∈xs,ndP y)(a:T)(cc:List T)(ha:fD a xs.length cc)(hx:hH xs cc)(hlen:gP xs≤200)(oh:YH xs)(op num:Int)(s:List Nat)(o:Out)(ho:o=if sk xs then .ext 1 else .ret)(g:Nat)(fr:Fr)(lh:fC fg)(sh:List fg)
  (h1:an fr 1= .ptr .L 1 g 0) (h6:an fr 6= .i .i64 0) (o1:be lh 1=⟨g,.cells [.i .i64 op,.i .i64 num,.s s,a] 0 true⟩):
  DC pE 84 (.loop ni) ⟨fr,lh,sh⟩=some (o,⟨gr pE 84 ni fr lh sh,gp pE 84 ni fr lh sh,gn pE 84 ni fr lh sh⟩)∧
  ((sk xs=false→an (gr pE 84 ni fr lh sh) 2= .b false)∧gn pE 84 ni fr lh sh=sh):=by
 refine fq (P:=fun fr fH fL=>(sk xs=false→an fr 2= .b false)∧fL=sh) (fw (fun k st=> ∃(fr:Fr),st=⟨fr,lh,sh⟩∧an fr 1= .ptr .L 1 g 0∧an fr 6= .i .i64 (k:Int)∧sk xs=sk (xs.drop k)) _ xs.length ?_ ?_ 0 _ (Nat.zero_le _) ⟨fr,rfl,h1,h6,rfl⟩)
 ·rintro k _ hk ⟨fr,rfl,h1,h6,gz⟩
  have fK:(k:Int)<xs.length:=by omega
  have Gc:=ju xs
  have hyk:=mP (List.getElem_mem hk)
  have hw:=fQ (k:=k) (ku (by omega))
  obtain⟨b,cb,r,fF,iK,oS,hb⟩:=nw ha hx k hk
  have fu:=ih xs[k] (List.getElem_mem hk) _ hb (by omega) (zI.1 oh _ (List.getElem_mem hk))
  rw[Hl hk]at gz
  cases hf:xs[k].wf with
  |true=>
   left
   rw[hf]at fu gz
   simp(maxDischargeDepth:=6) only[qA,seval,ni,h1,h6,o1,ha.lenI,fK,fF,hw,fu,OM,iK.froz1]
   refine⟨_,rfl,_,rfl, ?_, ?_,gz⟩ <;> simp(maxDischargeDepth:=6) only[qA,seval,h1]
  |false=>
   right
   rw[hf]at fu gz
   simp(maxDischargeDepth:=6) only[qA,seval,ni,h1,h6,o1,ha.lenI,fK,fF,fu,OM,iK.froz1]
   refine⟨_,_,(by simp:Out.ret≠ .nrm),rfl,by rw[ho,gz];rfl,fun _=>by simp(maxDischargeDepth:=6) only[qA,seval],rfl⟩
 ·rintro _ ⟨fr,rfl,h1,h6,gz⟩
  rw[List.drop_length,sk]at gz
  simp(maxDischargeDepth:=6) only[qA,seval,ni,h1,h6,o1,ha.lenI,Int.lt_irrefl]
  exact⟨_,_,(by simp:Out.ext 1≠ .nrm),rfl,by rw[ho,gz];rfl,fun hc=>(by rw[gz]at hc;cases hc),rfl⟩
theorem aju(x:Ex):ndP x:=by
 induction x using Ex.ind with
 |h x ih=>
  intro cs hx hn hs
  obtain⟨a,cc,rfl,ha,Bb⟩:=hx.cells
  rw[fx Xk (by simp[oG]),Ex.wf_eq]
  have hnd:=x.nodes_eq
  have LW:=ju x.args
  obtain⟨tj,yw⟩:=(Ex.sm_eq x).1 hs
  have hL:=fun fr lh sh=>nd1 x.args ih a cc ha Bb (by omega) yw x.op x.num x.name _ rfl 1 fr lh sh
  have mW:=Jd x.name tj
  have hn2:x.args.length≤200:=by omega
  generalize x.op=op,x.num=num,x.name=name,x.args.length=n at*
  by_cases h1:op<1
  ·rw[K3 h1];simp(maxDischargeDepth:=6) only[qA,seval,oG,h1]
  by_cases h2:(22:Int)<op
  ·rw[K4 h2];simp(maxDischargeDepth:=6) only[qA,seval,oG,h1,h2]
  rw[K5 h1 h2]
  have iA:=RK op (by omega) (by omega)
  have Bs:=abx op n (by omega) (by omega) hn2
  have base: ∀b:Bool,(true&&b)=b:=fun b=>by simp
  cases ho:iI op n with
  |false=>
   rw[ho]at Bs
   by_cases a1:(n:Int)<M7 op
   ·simp(maxDischargeDepth:=6) only[qA,seval,oG,h1,h2,ha.lenI,iA,mT,a1]
   ·have a2:Jc op<(n:Int):=by
     by_cases a2:Jc op<(n:Int)
     ·exact a2
     ·exact absurd (Bs.2 ⟨a1,a2⟩) (by simp)
    simp(maxDischargeDepth:=6) only[qA,seval,oG,h1,h2,ha.lenI,iA,mT,a1,a2]
  |true=>
   obtain⟨a1,a2⟩:=Bs.1 ho
   rw[base]
   generalize M7 op=lo,Jc op=hi at iA a1 a2
   clear Bs ho
   by_cases e1:op=1
   ·subst e1
    have hm:pz 1=1099511627776:=rfl
    rw[hm,if_neg (by decide)]
    by_cases n1:num<0
    ·rw[decide_eq_false (by omega)];simp(maxDischargeDepth:=6) only[qA,seval,oG,ha.lenI,iA,mT,a1,a2,n1]
    by_cases n2:(1099511627776:Int)<num
    ·rw[decide_eq_false (fun h=>absurd h.2 (Int.not_le.2 n2))];simp(maxDischargeDepth:=6) only[qA,seval,oG,ha.lenI,iA,mT,a1,a2,n1,n2]
    rw[decide_eq_true (p:=0≤num∧num≤1099511627776) ⟨Int.not_lt.1 n1,Int.not_lt.1 n2⟩,base]
    by_cases e:name= []
    ·rw[decide_eq_true e,base]
     cases hw:sk x.args <;> simp only[hw]at hL <;> simp(maxDischargeDepth:=6) only[qA,seval,oG,ha.lenI,iA,mT,a1,a2,n1,n2,e,hL]
    ·rw[decide_eq_false e];simp(maxDischargeDepth:=6) only[qA,seval,oG,ha.lenI,iA,mT,a1,a2,n1,n2,e]
   by_cases e2:op=2
   ·subst e2
    have hm:pz 2=1099511627776:=rfl
    rw[hm,if_neg (by decide)]
    by_cases n1:num<0
    ·rw[decide_eq_false (by omega)];simp(maxDischargeDepth:=6) only[qA,seval,oG,ha.lenI,iA,mT,a1,a2,n1]
    by_cases n2:(1099511627776:Int)<num
    ·rw[decide_eq_false (fun h=>absurd h.2 (Int.not_le.2 n2))];simp(maxDischargeDepth:=6) only[qA,seval,oG,ha.lenI,iA,mT,a1,a2,n1,n2]
    rw[decide_eq_true (p:=0≤num∧num≤1099511627776) ⟨Int.not_lt.1 n1,Int.not_lt.1 n2⟩,base]
    by_cases e:name= []
    ·rw[decide_eq_true e,base]
     cases hw:sk x.args <;> simp only[hw]at hL <;> simp(maxDischargeDepth:=6) only[qA,seval,oG,ha.lenI,iA,mT,a1,a2,n1,n2,e,hL]
    ·rw[decide_eq_false e];simp(maxDischargeDepth:=6) only[qA,seval,oG,ha.lenI,iA,mT,a1,a2,n1,n2,e]
   by_cases e3:op=3
   ·subst e3
    have hm:pz 3=1439:=rfl
    rw[hm,if_neg (by decide)]
    by_cases n1:num<0
    ·rw[decide_eq_false (by omega)];simp(maxDischargeDepth:=6) only[qA,seval,oG,ha.lenI,iA,mT,a1,a2,n1]
    by_cases n2:(1439:Int)<num
    ·rw[decide_eq_false (fun h=>absurd h.2 (Int.not_le.2 n2))];simp(maxDischargeDepth:=6) only[qA,seval,oG,ha.lenI,iA,mT,a1,a2,n1,n2]
    rw[decide_eq_true (p:=0≤num∧num≤1439) ⟨Int.not_lt.1 n1,Int.not_lt.1 n2⟩,base]
    by_cases e:name= []
    ·rw[decide_eq_true e,base]
     cases hw:sk x.args <;> simp only[hw]at hL <;> simp(maxDischargeDepth:=6) only[qA,seval,oG,ha.lenI,iA,mT,a1,a2,n1,n2,e,hL]
    ·rw[decide_eq_false e];simp(maxDischargeDepth:=6) only[qA,seval,oG,ha.lenI,iA,mT,a1,a2,n1,n2,e]
   have hm:pz op=0:=by unfold pz;rw[if_neg (by omega),if_neg e3]
   rw[hm]
   by_cases n1:num<0
   ·rw[decide_eq_false (by omega)];simp(maxDischargeDepth:=6) only[qA,seval,oG,ha.lenI,iA,mT,a1,a2,h1,h2,e1,e2,e3,n1]
   by_cases n2:(0:Int)<num
   ·rw[decide_eq_false (by omega)];simp(maxDischargeDepth:=6) only[qA,seval,oG,ha.lenI,iA,mT,a1,a2,h1,h2,e1,e2,e3,n1,n2]
   rw[decide_eq_true (p:=0≤num∧num≤0) (by omega),base]
   by_cases e6:op=6
   ·subst e6
    rw[if_pos rfl]
    cases hb:pv name with
    |true=>
     rw[hb]at mW
     cases hw:sk x.args <;> simp only[hw]at hL <;> simp(maxDischargeDepth:=6) only[qA,seval,oG,ha.lenI,iA,mT,a1,a2,n1,n2,mW,XA,hL]
    |false=>
     rw[hb]at mW
     simp(maxDischargeDepth:=6) only[qA,seval,oG,ha.lenI,iA,mT,a1,a2,n1,n2,mW,XA]
   ·rw[if_neg e6]
    by_cases e:name= []
    ·rw[decide_eq_true e,base]
     cases hw:sk x.args <;> simp only[hw]at hL <;> simp(maxDischargeDepth:=6) only[qA,seval,oG,ha.lenI,iA,mT,a1,a2,h1,h2,e1,e2,e3,e6,n1,n2,e,hL]
    ·rw[decide_eq_false e];simp(maxDischargeDepth:=6) only[qA,seval,oG,ha.lenI,iA,mT,a1,a2,h1,h2,e1,e2,e3,e6,n1,n2,e]
theorem Bz{x:Ex}(hv:fP x=0):x.nodes≤200:=by
 unfold fP at hv
 by_cases h:big x
 ·rw[if_pos h]at hv;cases hv
 ·unfold big at h;omega
theorem Nd(x:Ex)(cs:List T)(hx:jY x cs)(hn:0≤x.nodes)(hs:x.sm): ∃s,fj pE 229 [.agg cs] []=some (.i .i64 (fP x),s):=by
 obtain⟨n',hf,_⟩:=VU x 1 0 cs hx (by omega) (by omega)
 have hw0:=fun h=>ajt x cs hx h hs
 have Bs:iD 0 1 x↔ ¬big x:=by unfold iD big;omega
 obtain⟨a,cc,rfl,ha,Bb⟩:=hx.cells
 rw[fx W6 (by simp[LD])]
 unfold Br at hf
 have h00:((0:Nat):Int)=0:=rfl
 have nR:((1:Nat):Int)=1:=rfl
 rw[h00,nR]at hf
 unfold fP
 by_cases hb:big x
 ·have lU: ¬iD 0 1 x:=fun h=>Bs.1 h hb
  rw[decide_eq_false lU]at hf
  simp(maxDischargeDepth:=6) only[qA,seval,oM,iP,LD,hf,JN,ha.kept1,hb]
  exact⟨_,rfl⟩
 ·have hw:=hw0 (by unfold big at hb;omega)
  rw[decide_eq_true (Bs.2 hb)]at hf
  cases uE:x.wf <;> rw[uE]at hw <;> simp(maxDischargeDepth:=6) only[qA,seval,oM,iP,LD,hf,JN,hw,OO,ha.kept1,ha.froz1,hb] <;> exact⟨_,rfl⟩
theorem rX{z:Nat}{fr:Fr}{lh:fC fg}{sh:List fg}(x:Ex)(cs:List T)(hx:jY x cs)(hn:0≤x.nodes)(hs:x.sm):gq pE (fj pE) z ⟨fr,lh,sh⟩ 229 [.agg cs]=some (.i .i64 (fP x),⟨fr,lh,sh⟩):=by
 obtain⟨s,h⟩:=Nd x cs hx hn hs
 obtain⟨a,cc,rfl,ha,Bb⟩:=hx.cells
 rw[aga (by simp[Gl,wL,D2,ha.froz1]),h];rfl
theorem pV(x:Ex)(cs:List T)(hx:jY x cs)(hs:x.sm):fj pE 196 [.agg cs] []=some (.i .i64 (fP x),[]):=by
 have hz:=VW x cs hx
 have wy:=abv x
 have tI:=RI x (level:=1) (by omega)
 have hw:=aju x cs hx
 obtain⟨a,cc,rfl,ha,Bb⟩:=hx.cells
 rw[fx WV (by simp[HS])]
 unfold fP
 generalize x.sz 1=p at*
 by_cases c1:(200:Int)<(p.1:Int)
 ·have hb:big x:=wy.1 (by omega)
  simp(maxDischargeDepth:=6) only[qA,seval,HS,hz,OL,ha.froz1,hb,c1]
 ·by_cases c2:(16:Int)<(p.2:Int)
  ·have hb:big x:=wy.1 (by omega)
   simp(maxDischargeDepth:=6) only[qA,seval,HS,hz,OL,ha.froz1,hb,c1,c2]
  ·have hb: ¬big x:=fun h=>by have:=wy.2 h;omega
   have Yb:=hw (by unfold big at hb;omega) hs
   cases uE:x.wf <;> rw[uE]at Yb <;> simp(maxDischargeDepth:=6) only[qA,seval,HS,hz,OL,ha.froz1,hb,c1,c2,Yb,OM]
end Go.Proofs.YtblcbheipjeoeaaGreat
namespace Go.Proofs.YtblcbheipjeoeaaGreat
open Go Go.Ev
theorem qo(l:List Int):(ints l).length=l.length:=by simp[ints]
theorem CQ(l:List Int)(k:Nat)(hk:k<l.length):(ints l).drop k=T.i .i64 l[k]::(ints l).drop (k+1):=by
 rw[List.drop_eq_getElem_cons (by rw[qo];exact hk)];simp[ints]
theorem vO{a:T}{ts:List Int}(ha:fD a ts.length (ints ts)){k:Nat}(hk:k<ts.length)(kk:IntKind):tf a (.i kk (k:Int)) 1=some (.vp (T.i .i64 ts[k]::(ints ts).drop (k+1))):=by
 rw[ha.ia (sz:=1) (by rw[qo];omega) hk,Nat.mul_one,CQ ts k hk]
theorem Dk{ts:List Int}{k:Nat}{t:Int}(hk:k<ts.length):jd (ts.drop k) t=(decide (ts[k]=t)&&jd (ts.drop (k+1)) t):=by
 unfold jd;rw[List.drop_eq_getElem_cons hk,List.all_cons]
theorem ajv(ts:List Int)(t:Int)(a:T)(ha:fD a ts.length (ints ts))(hlen:ts.length≤om)(o:Out)(ho:o=if jd ts t then .ext 0 else .ret)(fr:Fr)(lh:fC fg)(sh:List fg)
  (h1:an fr 1= .i .i64 t) (h7:an fr 7=a) (h8:an fr 8= .i .i64 (ts.length:Int)) (h9:an fr 9= .i .i64 0):
  DC pE 17 (.loop mG) ⟨fr,lh,sh⟩=some (o,⟨gr pE 17 mG fr lh sh,gp pE 17 mG fr lh sh,gn pE 17 mG fr lh sh⟩)∧
  ((jd ts t=false→an (gr pE 17 mG fr lh sh) 4= .b false)∧gp pE 17 mG fr lh sh=lh∧gn pE 17 mG fr lh sh=sh):=by
 refine fq (P:=fun fr fH fL=>(jd ts t=false→an fr 4= .b false)∧fH=lh∧fL=sh) (fw (fun k st=> ∃(fr:Fr),st=⟨fr,lh,sh⟩∧an fr 1= .i .i64 t∧an fr 7=a∧an fr 8= .i .i64 (ts.length:Int)∧an fr 9= .i .i64 (k:Int)∧jd ts t=jd (ts.drop k) t) _ ts.length ?_ ?_ 0 _ (Nat.zero_le _) ⟨fr,rfl,h1,h7,h8,h9,rfl⟩)
 ·rintro k _ hk ⟨fr,rfl,h1,h7,h8,h9,gz⟩
  have fK:(k:Int)<ts.length:=by omega
  have hw:=fQ (k:=k) (by omega)
  rw[Dk hk]at gz
  by_cases hf:ts[k]=t
  ·left
   rw[decide_eq_true hf,Bool.true_and]at gz
   simp(maxDischargeDepth:=6) only[qA,seval,mG,h1,h7,h8,h9,fK,vO ha hk,hw,hf]
   refine⟨_,rfl,_,rfl, ?_, ?_, ?_, ?_,gz⟩ <;> simp(maxDischargeDepth:=6) only[qA,seval,h1,h7,h8]
  ·right
   rw[decide_eq_false hf,Bool.false_and]at gz
   simp(maxDischargeDepth:=6) only[qA,seval,mG,h1,h7,h8,h9,fK,vO ha hk,hf]
   refine⟨_,_,(by simp:Out.ret≠ .nrm),rfl,by rw[ho,gz];rfl,fun _=>by simp(maxDischargeDepth:=6) only[qA,seval],rfl,rfl⟩
 ·rintro _ ⟨fr,rfl,h1,h7,h8,h9,gz⟩
  rw[List.drop_length]at gz
  have gz:jd ts t=true:=gz
  simp(maxDischargeDepth:=6) only[qA,seval,mG,h8,h9,Int.lt_irrefl]
  exact⟨_,_,(by simp:Out.ext 0≠ .nrm),rfl,by rw[ho,gz];rfl,fun hc=>(by rw[gz]at hc;cases hc),rfl,rfl⟩
theorem K6(ts:List Int)(t:Int)(a:T)(ha:fD a ts.length (ints ts))(hlen:ts.length≤om):fj pE 321 [a,.i .i64 t] []=some (.b (jd ts t),[]):=by
 have hL:=fun fr lh sh=>ajv ts t a ha hlen _ rfl fr lh sh
 rw[fx XR (by simp[Ol])]
 cases h:jd ts t <;> simp only[h]at hL <;> simp(maxDischargeDepth:=6) only[qA,seval,Ol,ha.lenI,hL]
theorem ajw(ts:List Int)(t:Int)(a:T)(ha:fD a ts.length (ints ts))(hlen:ts.length≤om)(o:Out)(ho:o=if jd ts t then .ext 0 else .ret)(fr:Fr)(lh:fC fg)(sh:List fg)
  (h0:an fr 0=a) (h1:an fr 1= .i .i64 t) (h5:an fr 5= .i .i64 0):
  DC pE 18 (.loop mE) ⟨fr,lh,sh⟩=some (o,⟨gr pE 18 mE fr lh sh,gp pE 18 mE fr lh sh,gn pE 18 mE fr lh sh⟩)∧
  ((jd ts t=false→an (gr pE 18 mE fr lh sh) 4= .b false)∧gp pE 18 mE fr lh sh=lh∧gn pE 18 mE fr lh sh=sh):=by
 refine fq (P:=fun fr fH fL=>(jd ts t=false→an fr 4= .b false)∧fH=lh∧fL=sh) (fw (fun k st=> ∃(fr:Fr),st=⟨fr,lh,sh⟩∧an fr 0=a∧an fr 1= .i .i64 t∧an fr 5= .i .i64 (k:Int)∧jd ts t=jd (ts.drop k) t) _ ts.length ?_ ?_ 0 _ (Nat.zero_le _) ⟨fr,rfl,h0,h1,h5,rfl⟩)
 ·rintro k _ hk ⟨fr,rfl,h0,h1,h5,gz⟩
  have fK:(k:Int)<ts.length:=by omega
  have hw:=fQ (k:=k) (by omega)
  rw[Dk hk]at gz
  by_cases hf:ts[k]=t
  ·left
   rw[decide_eq_true hf,Bool.true_and]at gz
   simp(maxDischargeDepth:=6) only[qA,seval,mE,h0,h1,h5,ha.lenI,fK,vO ha hk,hw,hf]
   refine⟨_,rfl,_,rfl, ?_, ?_, ?_,gz⟩ <;> simp(maxDischargeDepth:=6) only[qA,seval,h0,h1]
  ·right
   rw[decide_eq_false hf,Bool.false_and]at gz
   simp(maxDischargeDepth:=6) only[qA,seval,mE,h0,h1,h5,ha.lenI,fK,vO ha hk,hf]
   refine⟨_,_,(by simp:Out.ret≠ .nrm),rfl,by rw[ho,gz];rfl,fun _=>by simp(maxDischargeDepth:=6) only[qA,seval],rfl,rfl⟩
 ·rintro _ ⟨fr,rfl,h0,h1,h5,gz⟩
  rw[List.drop_length]at gz
  have gz:jd ts t=true:=gz
  simp(maxDischargeDepth:=6) only[qA,seval,mE,h0,h5,ha.lenI,Int.lt_irrefl]
  exact⟨_,_,(by simp:Out.ext 0≠ .nrm),rfl,by rw[ho,gz];rfl,fun hc=>(by rw[gz]at hc;cases hc),rfl,rfl⟩
theorem zJ(ts:List Int)(t:Int)(a:T)(ha:fD a ts.length (ints ts))(hlen:ts.length≤om):fj pE 290 [a,.i .i64 t] []=some (.b (jd ts t),[]):=by
 have hL:=fun fr lh sh=>ajw ts t a ha hlen _ rfl fr lh sh
 rw[fx XC (by simp[Oi])]
 cases h:jd ts t <;> simp only[h]at hL <;> simp(maxDischargeDepth:=6) only[qA,seval,Oi,hL]
theorem Dl(k:Int):fj pE 320 [.i .i64 k] []=some (.b (decide (k=1∨k=2)),[]):=by
 rw[fx OS (by simp[LQ])]
 by_cases h1:k=1
 ·simp(maxDischargeDepth:=6) only[qA,seval,LQ,h1,true_or]
 ·by_cases h2:k=2 <;> simp(maxDischargeDepth:=6) only[qA,seval,LQ,h1,h2,or_true,or_self]
theorem BA(op a b:Int):fj pE 322 [.i .i64 op,.i .i64 a,.i .i64 b] []=some (.i .i64 (pA op a b),[]):=by
 rw[fx OT (by simp[xE])]
 unfold pA
 by_cases a1:a=1
 ·subst a1
  by_cases b1:b=1
  ·simp(maxDischargeDepth:=6) only[qA,seval,xE,b1]
  ·by_cases o1:op=10
   ·by_cases b2:b=2 <;> simp(maxDischargeDepth:=6) only[qA,seval,xE,b1,b2,o1]
   ·by_cases o2:op=11 <;> simp(maxDischargeDepth:=6) only[qA,seval,xE,b1,o1,o2]
 ·by_cases a2:a=2
  ·subst a2
   by_cases b1:b=1
   ·simp(maxDischargeDepth:=6) only[qA,seval,xE,b1]
   ·by_cases o1:op=10
    ·simp(maxDischargeDepth:=6) only[qA,seval,xE,b1,o1]
    ·by_cases o2:op=11
     ·by_cases b2:b=2 <;> simp(maxDischargeDepth:=6) only[qA,seval,xE,b1,b2,o2]
     ·simp(maxDischargeDepth:=6) only[qA,seval,xE,b1,o1,o2]
  ·by_cases o1:op=10
   ·simp(maxDischargeDepth:=6) only[qA,seval,xE,a1,a2,o1]
   ·by_cases o2:op=11 <;> simp(maxDischargeDepth:=6) only[qA,seval,xE,a1,a2,o1,o2]
end Go.Proofs.YtblcbheipjeoeaaGreat
namespace Go.Proofs.YtblcbheipjeoeaaGreat
open Go Go.Ev
theorem vd{a:T}{t:Int}{ts:List Int}(ha:fD a (t::ts).length (ints (t::ts))): ∃ex,a= .sl (.i .i64 t::ints ts) (ts.length+1) ex:=by
 rcases ha with⟨_,h,_⟩|⟨ex,h⟩
 ·simp at h
 ·exact⟨ex,h⟩
theorem R5{ts:List Int}(h:ts.length=1): ∃a,ts= [a]:=by
 match ts,h with
 | [a],_=>exact⟨a,rfl⟩
theorem qI{ts:List Int}(h:ts.length=2): ∃a b,ts= [a,b]:=by
 match ts,h with
 | [a,b],_=>exact⟨a,b,rfl⟩
theorem Nf{ts:List Int}(h:ts.length=3): ∃a b c,ts= [a,b,c]:=by
 match ts,h with
 | [a,b,c],_=>exact⟨a,b,c,rfl⟩
theorem ot(t:Int)(ts:List Int)(k:Int):jd (t::ts) k=(decide (t=k)&&jd ts k):=rfl
theorem BB(k:Int):jd [] k=true:=rfl
theorem R6(t:Int)(ts:List Int):(if jd (t::ts) 1 then(1:Int)else if jd (t::ts) 2 then 2 else 0)=if(t=1∨t=2)∧jd (t::ts) t=true then t else 0:=by
 rw[ot,ot,ot,decide_eq_true (p:=t=t) rfl,Bool.true_and]
 by_cases h1:t=1
 ·subst h1;simp
 ·by_cases h2:t=2
  ·subst h2;simp
  ·simp[h1,h2]
theorem si(op k:Int)(ts:List Int)(a:T)(ha:fD a ts.length (ints ts))(hl:ts.length≤om)(h:op=15∧k=3∨(op=19∨op=20∨op=21∨op=22)∧k=4):fj pE 323 [.i .i64 op,a] []=some (.b (jd ts k),[]):=by
 have h1:=K6 ts k a ha hl
 rw[fx JR (by simp[BU])]
 rcases h with⟨rfl,rfl⟩|⟨rfl|rfl|rfl|rfl,rfl⟩ <;> simp(maxDischargeDepth:=6) only[qA,seval,BU,h1,XS,ha.froz]
theorem Dm(op x y:Int)(a:T)(ha:fD a 2 (ints [x,y]))(h:op=16∨op=17):fj pE 323 [.i .i64 op,a] []=some (.b (decide ((x=1∨x=2)∧x=y)),[]):=by
 obtain⟨ex,rfl⟩:=vd (ts:= [y]) ha
 have hm:=Dl x
 rw[fx JR (by simp[BU])]
 by_cases hx:x=1∨x=2
 ·rw[decide_eq_true hx]at hm
  rcases h with rfl|rfl <;> simp(maxDischargeDepth:=6) only[qA,seval,iZ,gW,fU,BU,hm,JQ,XQ,ints,hx]
 ·rw[decide_eq_false hx]at hm
  rcases h with rfl|rfl <;> simp(maxDischargeDepth:=6) only[qA,seval,iZ,gW,BU,hm,JQ,XQ,ints,hx]
theorem R7(x y:Int)(a:T)(ha:fD a 2 (ints [x,y])):fj pE 323 [.i .i64 18,a] []=some (.b (decide (x=y)),[]):=by
 obtain⟨ex,rfl⟩:=vd (ts:= [y]) ha
 rw[fx JR (by simp[BU])]
 simp(maxDischargeDepth:=6) only[qA,seval,iZ,gW,BU,ints]
theorem Jj(op:Int)(ts:List Int)(a:T)(ha:fD a ts.length (ints ts))(hl:ts.length≤om)(h1:1≤op)(h2:op≤22)(h6:op≠6)(iA:iI op ts.length=true):fj pE 302 [.i .i64 op,a] []=some (.i .i64 (kO op ts),[]):=by
 rw[fx XI (by simp[rE])]
 have BC: ∀t Ak,ts=t::Ak→(op=7∨op=8∨op=9∨op=12∨op=13)→za rE.res rE.eff (DC pE rE.n rE.code ⟨pG [.i .i64 op,a],.nil,[]⟩)=some (.i .i64 (if(t=1∨t=2)∧jd ts t=true then t else 0),[]):=by
  rintro t Ak rfl ho
  have gz:=K6 (t::Ak) t a ha hl
  have hm:=Dl t
  have hfz:=ha.froz
  obtain⟨ex,rfl⟩:=vd ha
  have hz:0<Ak.length+1:=Nat.succ_pos _
  by_cases hx:t=1∨t=2
  ·rw[decide_eq_true hx]at hm
   cases hk:jd (t::Ak) t <;> rw[hk]at gz <;> rcases ho with rfl|rfl|rfl|rfl|rfl <;>
    simp(maxDischargeDepth:=6) only[qA,seval,iZ,rE,hm,JQ,gz,XS,hx,hz]
  ·rw[decide_eq_false hx]at hm
   rcases ho with rfl|rfl|rfl|rfl|rfl <;> simp(maxDischargeDepth:=6) only[qA,seval,iZ,rE,hm,JQ,hx,hz]
 have Hm: ∀b:Bool,fj pE 323 [.i .i64 op,a] []=some (.b b,[])→(op=15∨op=16∨op=17∨op=18∨op=19∨op=20∨op=21∨op=22)→za rE.res rE.eff (DC pE rE.n rE.code ⟨pG [.i .i64 op,a],.nil,[]⟩)=some (.i .i64 (if b=true then 4 else 0),[]):=by
  intro b hb ho
  cases b <;> rcases ho with rfl|rfl|rfl|rfl|rfl|rfl|rfl|rfl <;> simp(maxDischargeDepth:=6) only[qA,seval,rE,hb,agi,ha.froz]
 rcases oQ h1 h2 with rfl|rfl|rfl|rfl|rfl|rfl|rfl|rfl|rfl|rfl|rfl|rfl|rfl|rfl|rfl|rfl|rfl|rfl|rfl|rfl|rfl|rfl
 iterate 5 ·simp(maxDischargeDepth:=6) only[qA,seval,rE,kO]
 ·exact absurd rfl h6
 ·obtain⟨x,rfl⟩:=R5 (by simpa[iI]using iA)
  rw[BC x [] rfl (by simp),←R6];rfl
 ·obtain⟨x,y,rfl⟩:=qI (by simpa[iI]using iA)
  rw[BC x [y] rfl (by simp),←R6];rfl
 ·obtain⟨x,y,rfl⟩:=qI (by simpa[iI]using iA)
  rw[BC x [y] rfl (by simp),←R6];rfl
 ·obtain⟨x,y,rfl⟩:=qI (by simpa[iI]using iA)
  obtain⟨ex,rfl⟩:=vd ha
  have hp:=BA 10 x y
  simp(maxDischargeDepth:=6) only[qA,seval,iZ,gW,fU,rE,ints,hp,XT,XU];rfl
 ·obtain⟨x,y,rfl⟩:=qI (by simpa[iI]using iA)
  obtain⟨ex,rfl⟩:=vd ha
  have hp:=BA 11 x y
  simp(maxDischargeDepth:=6) only[qA,seval,iZ,gW,fU,rE,ints,hp,XT,XU];rfl
 ·match ts,iA with
  |x::ts,_=>rw[BC x ts rfl (by simp),←R6];rfl
 ·match ts,iA with
  |x::ts,_=>rw[BC x ts rfl (by simp),←R6];rfl
 ·obtain⟨x,y,z,rfl⟩:=Nf (by simpa[iI]using iA)
  obtain⟨ex,rfl⟩:=vd ha
  have hr:kO 14 [x,y,z]=if x=4∧y=z then y else 0:=rfl
  rw[hr]
  by_cases hx:x=4
  ·by_cases hy:y=z <;> simp(maxDischargeDepth:=6) only[qA,seval,iZ,gW,fU,rE,ints,hx,hy]
  ·simp(maxDischargeDepth:=6) only[qA,seval,iZ,gW,fU,rE,ints,hx]
 ·exact Hm _ (si 15 3 ts a ha hl (by simp)) (by simp)
 ·obtain⟨x,y,rfl⟩:=qI (by simpa[iI]using iA)
  rw[Hm _ (Dm 16 x y a ha (by simp)) (by simp)]
  have hr:kO 16 [x,y]=if(x=1∨x=2)∧x=y then 4 else 0:=rfl
  rw[hr];simp only[decide_eq_true_eq]
 ·obtain⟨x,y,rfl⟩:=qI (by simpa[iI]using iA)
  rw[Hm _ (Dm 17 x y a ha (by simp)) (by simp)]
  have hr:kO 17 [x,y]=if(x=1∨x=2)∧x=y then 4 else 0:=rfl
  rw[hr];simp only[decide_eq_true_eq]
 ·obtain⟨x,y,rfl⟩:=qI (by simpa[iI]using iA)
  rw[Hm _ (R7 x y a ha) (by simp)]
  have hr:kO 18 [x,y]=if x=y then 4 else 0:=rfl
  rw[hr];simp only[decide_eq_true_eq]
 ·exact Hm _ (si 19 4 ts a ha hl (by simp)) (by simp)
 ·exact Hm _ (si 20 4 ts a ha hl (by simp)) (by simp)
 ·exact Hm _ (si 21 4 ts a ha hl (by simp)) (by simp)
 ·exact Hm _ (si 22 4 ts a ha hl (by simp)) (by simp)
theorem Jk(op:Int)(ts:List Int)(a:T)(ha:fD a ts.length (ints ts))(hl:ts.length≤om)(h1:1≤op)(h2:op≤22)(h6:op≠6)(iA:iI op ts.length=true):fj pE 262 [.i .i64 op,a] []=some (.i .i64 (kO op ts),[]):=by
 rw[fx Xl (by simp[pk])]
 have a1:=zJ ts 1 a ha hl
 have a2:=zJ ts 2 a ha hl
 have a3:=zJ ts 3 a ha hl
 have a4:=zJ ts 4 a ha hl
 have hfz:=ha.froz
 have BC:(op=7∨op=8∨op=9∨op=12∨op=13)→za pk.res pk.eff (DC pE pk.n pk.code ⟨pG [.i .i64 op,a],.nil,[]⟩)=some (.i .i64 (if jd ts 1 then 1 else if jd ts 2 then 2 else 0),[]):=by
  intro ho
  cases k1:jd ts 1 <;> rw[k1]at a1 <;> cases k2:jd ts 2 <;> rw[k2]at a2 <;> rcases ho with rfl|rfl|rfl|rfl|rfl <;>
    simp(maxDischargeDepth:=6) only[qA,seval,pk,a1,a2,rG,hfz]
 rcases oQ h1 h2 with rfl|rfl|rfl|rfl|rfl|rfl|rfl|rfl|rfl|rfl|rfl|rfl|rfl|rfl|rfl|rfl|rfl|rfl|rfl|rfl|rfl|rfl
 iterate 5 ·simp(maxDischargeDepth:=6) only[qA,seval,pk,kO]
 ·exact absurd rfl h6
 ·exact BC (by simp)
 ·exact BC (by simp)
 ·exact BC (by simp)
 ·obtain⟨x,y,rfl⟩:=qI (by simpa[iI]using iA)
  obtain⟨ex,rfl⟩:=vd ha
  have hr:kO 10 [x,y]=pA 10 x y:=rfl
  rw[hr]
  simp only[ot,BB,Bool.and_true]at a1
  by_cases x1:x=1
  ·by_cases y1:y=1
   ·simp(maxDischargeDepth:=6) only[qA,seval,x1,y1,ints]at a1
    simp(maxDischargeDepth:=6) only[qA,seval,iZ,pk,ints,a1,rG,x1,y1,pA]
   ·by_cases y2:y=2 <;> simp(maxDischargeDepth:=6) only[qA,seval,x1,y1,y2,ints]at a1 <;> simp(maxDischargeDepth:=6) only[qA,seval,iZ,pk,ints,a1,rG,x1,y1,y2,pA]
  ·by_cases x2:x=2
   ·by_cases y1:y=1 <;> simp(maxDischargeDepth:=6) only[qA,seval,x2,y1,ints]at a1 <;> simp(maxDischargeDepth:=6) only[qA,seval,iZ,pk,ints,a1,rG,x2,y1,pA]
   ·simp(maxDischargeDepth:=6) only[qA,seval,x1,ints]at a1
    simp(maxDischargeDepth:=6) only[qA,seval,iZ,pk,ints,a1,rG,x1,x2,pA]
 ·obtain⟨x,y,rfl⟩:=qI (by simpa[iI]using iA)
  obtain⟨ex,rfl⟩:=vd ha
  have hr:kO 11 [x,y]=pA 11 x y:=rfl
  rw[hr]
  simp only[ot,BB,Bool.and_true]at a1 a2
  by_cases x1:x=1
  ·by_cases y1:y=1
   ·simp(maxDischargeDepth:=6) only[qA,seval,x1,y1,ints]at a1
    simp(maxDischargeDepth:=6) only[qA,seval,iZ,pk,ints,a1,rG,x1,y1,pA]
   ·simp(maxDischargeDepth:=6) only[qA,seval,x1,y1,ints]at a1 a2
    simp(maxDischargeDepth:=6) only[qA,seval,iZ,pk,ints,a1,a2,rG,x1,y1,pA]
  ·by_cases x2:x=2
   ·by_cases y1:y=1
    ·simp(maxDischargeDepth:=6) only[qA,seval,x2,y1,ints]at a1 a2
     simp(maxDischargeDepth:=6) only[qA,seval,iZ,pk,ints,a1,a2,rG,x2,y1,pA]
    ·by_cases y2:y=2 <;> simp(maxDischargeDepth:=6) only[qA,seval,x2,y1,y2,ints]at a1 a2 <;> simp(maxDischargeDepth:=6) only[qA,seval,iZ,pk,ints,a1,a2,rG,x2,y1,y2,pA]
   ·simp(maxDischargeDepth:=6) only[qA,seval,x1,x2,ints]at a1 a2
    simp(maxDischargeDepth:=6) only[qA,seval,iZ,pk,ints,a1,a2,rG,x1,x2,pA]
 ·exact BC (by simp)
 ·exact BC (by simp)
 ·obtain⟨x,y,z,rfl⟩:=Nf (by simpa[iI]using iA)
  obtain⟨ex,rfl⟩:=vd ha
  have hr:kO 14 [x,y,z]=if x=4∧y=z then y else 0:=rfl
  rw[hr]
  by_cases hx:x=4
  ·by_cases hy:y=z <;> simp(maxDischargeDepth:=6) only[qA,seval,iZ,pk,ints,hx,hy]
  ·simp(maxDischargeDepth:=6) only[qA,seval,iZ,pk,ints,hx]
 ·have hr:kO 15 ts=if jd ts 3 then 4 else 0:=rfl
  rw[hr]
  cases k3:jd ts 3 <;> rw[k3]at a3 <;> simp(maxDischargeDepth:=6) only[qA,seval,pk,a3,rG,hfz]
 iterate 2
  ·obtain⟨x,y,rfl⟩:=qI (by simpa[iI]using iA)
   have hr: ∀op,(op=16∨op=17)→kO op [x,y]=if jd [x,y] 1 then 4 else if jd [x,y] 2 then 4 else 0:=by
    intro op ho
    have:kO op [x,y]=if(x=1∨x=2)∧x=y then 4 else 0:=by rcases ho with rfl|rfl <;> rfl
    rw[this]
    simp only[ot,BB,Bool.and_true]
    by_cases x1:x=1
    ·subst x1;by_cases y1:y=1
     ·simp[y1]
     ·simp[y1,Ne.symm y1]
    ·by_cases x2:x=2
     ·subst x2;by_cases y1:y=2
      ·simp[y1]
      ·simp[y1,Ne.symm y1]
     ·simp[x1,x2]
   rw[hr _ (by simp)]
   cases k1:jd [x,y] 1 <;> rw[k1]at a1 <;> cases k2:jd [x,y] 2 <;> rw[k2]at a2 <;> simp(maxDischargeDepth:=6) only[qA,seval,pk,a1,a2,rG,hfz]
 ·obtain⟨x,y,rfl⟩:=qI (by simpa[iI]using iA)
  obtain⟨ex,rfl⟩:=vd ha
  have hr:kO 18 [x,y]=if x=y then 4 else 0:=rfl
  rw[hr]
  by_cases hy:x=y <;> simp(maxDischargeDepth:=6) only[qA,seval,iZ,pk,ints,hy]
 iterate 4
  ·have hr: ∀op,(op=19∨op=20∨op=21∨op=22)→kO op ts=if jd ts 4 then 4 else 0:=by
    intro op ho;rcases ho with rfl|rfl|rfl|rfl <;> rfl
   rw[hr _ (by simp)]
   cases k4:jd ts 4 <;> rw[k4]at a4 <;> simp(maxDischargeDepth:=6) only[qA,seval,pk,a4,rG,hfz]
end Go.Proofs.YtblcbheipjeoeaaGreat
