/- The built expressions: leaves. The built expressions: a leaf of a type. Conditions: the theorems' own. -/
import Derived.Test.YtfenhjpkomldcaaGreatM14
import Derived.KernelRfl
set_option maxRecDepth 100000
set_option linter.unusedSimpArgs false
set_option linter.unusedVariables false
set_option maxHeartbeats 16000000
namespace Go.Proofs.YtfenhjpkomldcaaGreat
open Go Go.Ev
def atV(xs:List Int)(i:Nat):Int:=if xs.length=0 then(i:Int)%65536 else xs.getD (i%xs.length) 0%65536+((i/xs.length:Nat):Int)
theorem atV_nn(xs:List Int)(i:Nat):0≤atV xs i:=by
 unfold atV;split
 ·omega
 ·have:(0:Int)≤((i/xs.length:Nat):Int):=Int.natCast_nonneg _
  omega
theorem at_ev(l:T)(xs:List Int)(hl:IsSl l xs.length (ints xs))(i:Nat)(hi:i<1000000):DCall pE 86 [l,.i .i64 (i:Int)] []=some (.i .i64 (atV xs i),[]):=by
 rw[p_fun fn86 (by simp[c86])]
 by_cases h:xs.length=0
 ·have h':((xs.length:Nat):Int)=0:=by omega
  have ha:atV xs i=(i:Int)%65536:=by unfold atV;rw[if_pos h]
  simp(maxDischargeDepth:=6) only[qF,qGO0,qGO1,qGO2,qGO3,qGO4,reduceCtorEq,Nat.reduceLT,Nat.reduceEqDiff,c86,hl.lenI,h',ha]
 ·have h': ¬((xs.length:Nat):Int)=0:=by omega
  have hlt:i%xs.length<xs.length:=Nat.mod_lt _ (by omega)
  have ha:atV xs i=xs[i%xs.length]%65536+((i/xs.length:Nat):Int):=by
   unfold atV;rw[if_neg h];simp[List.getD_eq_getElem?_getD,hlt]
  have e1:((i:Int)).tmod (xs.length:Int)=((i%xs.length:Nat):Int):=by rw[tmod_nn (Int.natCast_nonneg i)];exact(Int.natCast_emod i xs.length).symm
  have e2:((i:Int)).tdiv (xs.length:Int)=((i/xs.length:Nat):Int):=by rw[Int.tdiv_eq_ediv_of_nonneg (Int.natCast_nonneg i)];exact(Int.natCast_ediv i xs.length).symm
  have hdl:i/xs.length≤i:=Nat.div_le_self _ _
  have hdn:0≤((i/xs.length:Nat):Int):=Int.natCast_nonneg _
  have hdl':((i/xs.length:Nat):Int)≤(i:Int):=Int.ofNat_le.2 hdl
  have hi':(i:Int)<1000000:=by omega
  generalize ((i/xs.length:Nat):Int)=q at*
  have w1:wr .i64 q=q:=wr64 (by omega)
  have w2:wr .i64 (xs[i%xs.length]%65536+q)=xs[i%xs.length]%65536+q:=wr64 (by omega)
  have hia:=int_at hl hlt
  simp(maxDischargeDepth:=6) only[qF,qGO0,qGO1,qGO2,qGO3,qGO4,qGO5,backD,calmOp,Nat.reduceAdd,reduceCtorEq,Nat.reduceLT,Nat.reduceEqDiff,c86,hl.lenI,h',e1,e2,hia,w1,w2,ha]
def srS(lT:T)(a:Nat):List Ent:= [⟨1,.cells [lT,.i .i64 (a:Int)] 0 true⟩]
theorem sr0(lT:T)(a:Nat):getE (srS lT a) 0=⟨1,.cells [lT,.i .i64 (a:Int)] 0 true⟩:=nr rfl
theorem sr0s(lT:T)(a b:Nat):setE (srS lT a) 0 ⟨1,.cells [lT,.i .i64 (b:Int)] 0 true⟩=srS lT b:=nr rfl
section
variable(xs:List Int)(lT:T)(hl:IsSl lT xs.length (ints xs))
include hl
theorem next_ev(a:Nat)(ha:a<999998)(n:Int)(hn:0<n): ∃r:Nat,(r:Int)<n∧DCall pE 93 [.ptr .S 0 1 0,.i .i64 n] (srS lT a)=some (.i .i64 (r:Int),srS lT (a+1)):=by
 have hat:=at_ev lT xs hl (a+1) (by omega)
 have h0:=atV_nn xs (a+1)
 have hm:=Int.emod_nonneg (atV xs (a+1)) (show n≠0 by omega)
 have hlt:=Int.emod_lt_of_pos (atV xs (a+1)) hn
 refine⟨(atV xs (a+1)%n).toNat,by rw[Int.toNat_of_nonneg hm];exact hlt, ?_⟩
 have e1:(atV xs (a+1)).tmod n=((atV xs (a+1)%n).toNat:Int):=by rw[tmod_nn h0,Int.toNat_of_nonneg hm]
 have hw:wr .i64 ((a:Int)+1)=((a+1:Nat):Int):=wr_succL (k:=a) (by unfold Lim;omega)
 have hn0: ¬n=0:=by omega
 rw[p_fun fn93 (by simp[c93])]
 simp(maxDischargeDepth:=6) only[qF,qGO0,qGO1,qGO2,qGO3,qGO4,qGO5,splice,Nat.reduceAdd,reduceCtorEq,Nat.reduceLT,Nat.reduceEqDiff,qDR0,getL,qSH0,c93,sr0,sr0s,hw,hat,dc86,dd86,hl.froz,hn0,e1]
end
def strsOk(cs:List T):Option (List (List Nat)):=match cs with
 | []=>some []
 | .s n::cs=>if n.length≤100 then(strsOk cs).map (n:: ·)else none
 |_=>none
theorem strsOk_map: ∀{cs:List T} {ns:List (List Nat)},strsOk cs=some ns→cs=ns.map T.s∧ ∀n∈ns,n.length≤100
 | [],ns,h=>by simp[strsOk]at h;subst h;exact⟨rfl,by simp⟩
 |c::cs,ns,h=>by
  cases c with
  |s n=>
   rw[strsOk]at h
   split at h
   ·rename_i hn
    cases hq:strsOk cs with
    |none=>rw[hq]at h;cases h
    |some ms=>
     rw[hq]at h
     simp only[Option.map_some,Option.some.injEq]at h
     subst h
     obtain⟨h1,h2⟩:=strsOk_map hq
     exact⟨by rw[h1];rfl,by intro m hm;rcases List.mem_cons.1 hm with rfl|hm;exact hn;exact h2 m hm⟩
   ·cases h
  |_=>simp[strsOk]at h
def attrsOk(r:Option (T×List Ent)):Bool:=match r with|some (.sl cs n _,_)=>(strsOk cs).isSome&&decide (cs.length=n)&&decide (n≤100)|_=>false
theorem attrs1:attrsOk (callK pE 60 84 [.i .i64 1] [])=true:=by kernel_rfl
theorem attrs2:attrsOk (callK pE 60 84 [.i .i64 2] [])=true:=by kernel_rfl
theorem attrs3:attrsOk (callK pE 60 84 [.i .i64 3] [])=true:=by kernel_rfl
theorem attrs_ev(scope:Int)(hs:scope=1∨scope=2∨scope=3): ∃(ns:List (List Nat)) (a:T) (s:List Ent),DCall pE 84 [.i .i64 scope] []=some (a,s)∧IsSl a ns.length (ns.map T.s)∧ns.length≤100∧ ∀n∈ns,n.length≤100:=by
 have key:attrsOk (callK pE 60 84 [.i .i64 scope] [])=true:=by
  rcases hs with rfl|rfl|rfl
  ·exact attrs1
  ·exact attrs2
  ·exact attrs3
 unfold attrsOk at key
 split at key
 ·rename_i cs n ex s e
  simp only[Bool.and_eq_true,decide_eq_true_eq,Option.isSome_iff_exists]at key
  obtain⟨⟨⟨ns,h1⟩,h2⟩,h3⟩:=key
  obtain⟨h4,h5⟩:=strsOk_map h1
  have hlen:n=ns.length:=by rw[←h2,h4,List.length_map]
  subst hlen
  refine⟨ns,.sl cs ns.length ex,s,dcall_of (by_callK e),Or.inr ⟨ex,by rw[h4]⟩,h3,h5⟩
 ·cases key
def entG(lh:Tri Ent)(k:Nat):Nat:=(getO lh k).g
def wmC(lh:Tri Ent)(k:Nat):Nat:=match(getO lh k).ob with| .cells _ w _=>w|_=>0
theorem outS_names{lh:Tri Ent}{v:T}{k sz n:Nat}{cs:List T}(h:OutS lh v k sz n cs)(hn:n≠0):v= .isl .L k (entG lh k) 0 n sz∧getO lh k=⟨entG lh k,.cells cs (wmC lh k) false⟩:=by
 rcases h with⟨rfl,_,_⟩|⟨g,wm,rfl,h2,h3,h4⟩
 ·exact absurd rfl hn
 ·unfold entG wmC;rw[h2];exact⟨rfl,rfl⟩
theorem str_at{a:T}{ns:List (List Nat)}(ha:IsSl a ns.length (ns.map T.s)){k:Nat}(hk:k<ns.length)(kk:IntKind):iaV a (.i kk (k:Int)) 1=some (.vp (T.s ns[k]::(ns.map T.s).drop (k+1))):=by
 rw[ha.ia (sz:=1) (by rw[List.length_map];omega) hk,Nat.mul_one,List.drop_eq_getElem_cons (by rw[List.length_map];exact hk),List.getElem_map]
def nmsK(scope kind:Int)(ns:List (List Nat)):List (List Nat):=ns.filter fun s=>decide (attrK scope s=kind)
theorem OutS_str{lh:Tri Ent}{sh:List Ent}{v:T}{k n:Nat}{cs:List T}(h:OutS lh v k 1 n cs)(hn:n≤Lim)(x:T)(ex:Bool):
  appW lh sh k 1 16 v (.sl [x] 1 ex)=some (nxV lh sh k 1 16 v (.sl [x] 1 ex),nxH lh sh k 1 16 v (.sl [x] 1 ex))∧OutS (nxH lh sh k 1 16 v (.sl [x] 1 ex)) (nxV lh sh k 1 16 v (.sl [x] 1 ex)) k 1 (n+1) (cs++ [x])∧ ∀j,j≠k→getO (nxH lh sh k 1 16 v (.sl [x] 1 ex)) j=getO lh j:=
 OutS.appW h (m:=0) (by rw[slC_sl];rfl) rfl (by unfold roomy;unfold Lim at hn;omega)
theorem leaf1(scope kind:Int)(ns:List (List Nat))(A:T)(hA:IsSl A ns.length (ns.map T.s))(hn:ns.length≤100)(c6:Ent)(fr:Fr)(lh:Tri Ent)(sh:List Ent)
  (h1:getF fr 1= .i .i64 scope) (h2:getF fr 2= .i .i64 kind) (h7:getF fr 7= .nilsl) (h8:getF fr 8=A) (h9:getF fr 9= .i .i64 0) (o6:getO lh 6=c6):
  DC pE 92 (.loop c94_L1) ⟨fr,lh,sh⟩=some (.ext 0,⟨frL pE 92 c94_L1 fr lh sh,lhL pE 92 c94_L1 fr lh sh,shL pE 92 c94_L1 fr lh sh⟩)∧
  (OutS (lhL pE 92 c94_L1 fr lh sh) (getF (frL pE 92 c94_L1 fr lh sh) 7) 41 1 (nmsK scope kind ns).length ((nmsK scope kind ns).map T.s)∧getO (lhL pE 92 c94_L1 fr lh sh) 6=c6∧shL pE 92 c94_L1 fr lh sh=sh):=by
 refine loop_rule (P:=fun fr' lh' sh'=>OutS lh' (getF fr' 7) 41 1 (nmsK scope kind ns).length ((nmsK scope kind ns).map T.s)∧getO lh' 6=c6∧sh'=sh)
  (loop_inv (fun k st=> ∃(fr:Fr) (lh1:Tri Ent),st=⟨fr,lh1,sh⟩∧getF fr 1= .i .i64 scope∧getF fr 2= .i .i64 kind∧getF fr 8=A∧getF fr 9= .i .i64 (k:Int)∧getO lh1 6=c6∧OutS lh1 (getF fr 7) 41 1 (nmsK scope kind (ns.take k)).length ((nmsK scope kind (ns.take k)).map T.s)) _ ns.length ?_ ?_ 0 _ (Nat.zero_le _) ⟨fr,lh,rfl,h1,h2,h8,h9,o6,by rw[h7];exact OutS.nil⟩)
 ·rintro k _ hkx ⟨fr,lh1,rfl,h1,h2,h8,h9,o6,hO⟩
  left
  have hk':(k:Int)<ns.length:=by omega
  have hw:=wr_succL (k:=k) (lim_of (by omega))
  have hia:=str_at hA hkx
  have hat:=rattr_ev scope ns[k]
  have hnx:nmsK scope kind (ns.take (k+1))=nmsK scope kind (ns.take k)++(if attrK scope ns[k]=kind then [ns[k]]else []):=by
   unfold nmsK
   have e:List.filter (fun s=>decide (attrK scope s=kind)) [ns[k]]=if attrK scope ns[k]=kind then [ns[k]]else []:=by
    by_cases h:attrK scope ns[k]=kind
    ·rw[if_pos h,List.filter_cons,decide_eq_true h];rfl
    ·rw[if_neg h,List.filter_cons,decide_eq_false h];rfl
   rw[List.take_succ_eq_append_getElem hkx,List.filter_append,e]
  have hlen:(nmsK scope kind (ns.take k)).length≤100:=by
   have:=List.length_filter_le (fun s=>decide (attrK scope s=kind)) (ns.take k)
   rw[List.length_take]at this
   unfold nmsK;omega
  rw[hnx]
  generalize h7:getF fr 7=v7 at hO
  by_cases hq:attrK scope ns[k]=kind
  ·rw[if_pos hq]
   have hap:=OutS_str hO (lim_of (by omega)) (sh:=sh) (T.s ns[k]) true
   rw[hq]at hat
   simp(maxDischargeDepth:=6) only[qF,qGO0,qGO1,qGO2,qGO3,qGO4,qGO5,bslV,bslW,splice,fills,repl,Nat.reduceLT,Nat.reduceEqDiff,c94_L1,h1,h2,h7,h8,h9,hA.lenI,hk',hia,hw,hat,dc85,hO.notS,hap.1]
   refine⟨_,rfl,_,_,rfl, ?_, ?_, ?_, ?_, ?_, ?_⟩
   all_goals first|(simp(maxDischargeDepth:=6) only[qGO2,qGO4,Nat.reduceEqDiff,h1,h2,h8];done)|skip
   ·rw[hap.2.2 6 (by decide),o6]
   ·simp(maxDischargeDepth:=6) only[qGO2,qGO4,Nat.reduceEqDiff]
    rw[List.length_append,List.map_append]
    exact hap.2.1
  ·rw[if_neg hq,List.append_nil]
   simp(maxDischargeDepth:=6) only[qF,qGO0,qGO1,qGO2,qGO3,qGO4,qGO5,bslV,bslW,splice,fills,repl,Nat.reduceLT,Nat.reduceEqDiff,c94_L1,h1,h2,h7,h8,h9,hA.lenI,hk',hia,hw,hat,dc85,hq]
   refine⟨_,rfl,_,_,rfl, ?_, ?_, ?_, ?_,o6, ?_⟩
   all_goals first|(simp(maxDischargeDepth:=6) only[qGO2,qGO4,Nat.reduceEqDiff,h1,h2,h8];done)|skip
   simp(maxDischargeDepth:=6) only[qGO2,qGO4,Nat.reduceEqDiff,h7]
   exact hO
 ·rintro _ ⟨fr,lh1,rfl,h1,h2,h8,h9,o6,hO⟩
  rw[List.take_length]at hO
  simp(maxDischargeDepth:=6) only[qGO0,qGO1,qGO2,qGO4,qGO5,Nat.reduceLT,Nat.reduceEqDiff,c94_L1,h8,h9,hA.lenI,Int.lt_irrefl]
  refine⟨_,_,(by simp:Out.ext 0≠ .nrm),rfl,rfl, ?_,o6,rfl⟩
  simp(maxDischargeDepth:=6) only[qGO2,qGO4,Nat.reduceEqDiff]
  exact hO
end Go.Proofs.YtfenhjpkomldcaaGreat
namespace Go.Proofs.YtfenhjpkomldcaaGreat
open Go Go.Ev
theorem name_is(s:List Nat):IsEx (.mk 6 0 s []) [.i .i64 6,.i .i64 0,.s s,.nilsl]:=IsEx.of (x:= .mk 6 0 s []) nil_is IsExs.nil
theorem name_sm(s:List Nat)(h:s.length≤100):(Ex.mk 6 0 s []).sm:=by rw[Ex.sm_eq];exact⟨limS_of (show s.length≤100000 by omega),trivial⟩
theorem str_part{ns:List (List Nat)}{r:Nat}(h:r<ns.length):Ev.part (ns.map T.s) r 1 false=some (T.s ns[r]):=by
 unfold Ev.part
 have hl:(List.map T.s ns).length=ns.length:=List.length_map ..
 simp[h,hl]
section
variable(xs:List Int)(lT:T)(hl:IsSl lT xs.length (ints xs))(scope:Int)(hsc:scope=1∨scope=2∨scope=3)
include hl hsc
theorem bleafT_ev(kind:Int)(hk:kind=1∨kind=2∨kind=3∨kind=4)(a:Nat)(ha:a<900000): ∃y cs a',DCall pE 94 [.ptr .S 0 1 0,.i .i64 scope,.i .i64 kind] (srS lT a)=some (.agg cs,srS lT a')∧IsEx y cs∧y.nodes=1∧y.sm∧a'≤a+3∧Gd scope kind 1 y:=by
 have v1: ∀v∈([0,1,1,2,3,5,60,1099511627776]:List Int),0≤v∧v≤1099511627776:=by decide
 have v2: ∀v∈([0,0,15,60,90,600,780,1099511627776]:List Int),0≤v∧v≤1099511627776:=by decide
 have v3: ∀v∈([0,300,720,1320,1439]:List Int),0≤v∧v≤1439:=by decide
 have v4: ∀v∈([4,5]:List Int),v=4∨v=5:=by decide
 obtain⟨r1,hr1,hn1⟩:=next_ev xs lT hl a (by omega) 3 (by decide)
 have tail: ∀b,b≤a+2→ ∃r2 r8 r5 r22:Nat,(r2:Int)<4∧r8<8∧r5<5∧r22<2∧DCall pE 93 [.ptr .S 0 1 0,.i .i64 4] (srS lT b)=some (.i .i64 (r2:Int),srS lT (b+1))∧DCall pE 93 [.ptr .S 0 1 0,.i .i64 8] (srS lT (b+1))=some (.i .i64 (r8:Int),srS lT (b+1+1))∧DCall pE 93 [.ptr .S 0 1 0,.i .i64 5] (srS lT b)=some (.i .i64 (r5:Int),srS lT (b+1))∧DCall pE 93 [.ptr .S 0 1 0,.i .i64 2] (srS lT b)=some (.i .i64 (r22:Int),srS lT (b+1)):=by
  intro b hb
  obtain⟨r2,h2,n2⟩:=next_ev xs lT hl b (by omega) 4 (by decide)
  obtain⟨r8,h8,n8⟩:=next_ev xs lT hl (b+1) (by omega) 8 (by decide)
  obtain⟨r5,h5,n5⟩:=next_ev xs lT hl b (by omega) 5 (by decide)
  obtain⟨r22,h22,n22⟩:=next_ev xs lT hl b (by omega) 2 (by decide)
  exact⟨r2,r8,r5,r22,h2,by omega,by omega,by omega,n2,n8,n5,n22⟩
 rw[p_fun fn94 (by simp[c94])]
 have t1:([T.i .i64 0,T.i .i64 1,T.i .i64 1,T.i .i64 2,T.i .i64 3,T.i .i64 5,T.i .i64 60,T.i .i64 1099511627776]:List T)=ints [0,1,1,2,3,5,60,1099511627776]:=rfl
 have hia1:=fun(r:Nat) (hr:r<8) ex kk=>int_at (a:= .sl [T.i .i64 0,T.i .i64 1,T.i .i64 1,T.i .i64 2,T.i .i64 3,T.i .i64 5,T.i .i64 60,T.i .i64 1099511627776] 8 ex) (ts:= [0,1,1,2,3,5,60,1099511627776]) (Or.inr ⟨ex,rfl⟩) (k:=r) hr kk
 have hia2:=fun(r:Nat) (hr:r<8) ex kk=>int_at (a:= .sl [T.i .i64 0,T.i .i64 0,T.i .i64 15,T.i .i64 60,T.i .i64 90,T.i .i64 600,T.i .i64 780,T.i .i64 1099511627776] 8 ex) (ts:= [0,0,15,60,90,600,780,1099511627776]) (Or.inr ⟨ex,rfl⟩) (k:=r) hr kk
 have hia3:=fun(r:Nat) (hr:r<5) ex kk=>int_at (a:= .sl [T.i .i64 0,T.i .i64 300,T.i .i64 720,T.i .i64 1320,T.i .i64 1439] 5 ex) (ts:= [0,300,720,1320,1439]) (Or.inr ⟨ex,rfl⟩) (k:=r) hr kk
 have hia4:=fun(r:Nat) (hr:r<2) ex kk=>int_at (a:= .sl [T.i .i64 4,T.i .i64 5] 2 ex) (ts:= [4,5]) (Or.inr ⟨ex,rfl⟩) (k:=r) hr kk
 by_cases hp:(0:Int)<(r1:Int)
 ·obtain⟨ns,A,s,hat,hA,hns,hnn⟩:=attrs_ev scope hsc
  have hL:=fun fr lh sh h1 h2 h7 h8 h9 o6=>leaf1 scope kind ns A hA hns ⟨1,.cells [.i .i64 0,.i .i64 0,.s [],.nilsl] 0 true⟩ fr lh sh h1 h2 h7 h8 h9 o6
  have hlen:=fun fr lh sh h1 h2 h7 h8 h9 o6=>(hL fr lh sh h1 h2 h7 h8 h9 o6).2.1.lenI
  by_cases hz:(nmsK scope kind ns).length=0
  ·obtain⟨r2,r8,r5,r22,q2,q8,q5,q22,n2,n8,n5,n22⟩:=tail (a+1) (by omega)
   rw[hz]at hlen
   by_cases k1:kind=1
   ·subst k1
    by_cases hr2:(r2:Int)=0
    ·rw[hr2]at n2
     simp(maxDischargeDepth:=6) only[qF,qGO0,qGO1,qGO2,qGO3,qGO4,qGO5,Nat.reduceShiftRight,Nat.reduceMod,buildV,bslV,bslW,splice,fills,repl,Nat.reduceAdd,reduceCtorEq,Nat.reduceLT,Nat.reduceLeDiff,Nat.reduceEqDiff,Int.reduceEq,qKP0,c94,c94_L1_w,hn1,dc93,hp,hat,dc84,hL,hlen,n2,Int.lt_irrefl]
     exact⟨_,_,_,rfl,name_is _,rfl,name_sm _ (by decide),by omega,gd_two hsc⟩
    ·have hia:=hia1 r8 q8
     simp(maxDischargeDepth:=6) only[qF,qGO0,qGO1,qGO2,qGO3,qGO4,qGO5,Nat.reduceShiftRight,Nat.reduceMod,buildV,bslV,bslW,splice,fills,repl,Nat.reduceAdd,reduceCtorEq,Nat.reduceLT,Nat.reduceLeDiff,Nat.reduceEqDiff,Int.reduceEq,qKP0,c94,c94_L1_w,hn1,dc93,hp,hat,dc84,hL,hlen,n2,hr2,n8,hia,Int.lt_irrefl]
     exact⟨_,_,_,rfl,leaf_is _ _ _ nil_is,rfl,leaf_sm _ _,by omega,gd_leaf (.inl ⟨rfl,rfl,(v1 _ (List.getElem_mem _)).1,(v1 _ (List.getElem_mem _)).2⟩)⟩
   by_cases k2:kind=2
   ·subst k2
    by_cases hr2:(r2:Int)=0
    ·rw[hr2]at n2
     simp(maxDischargeDepth:=6) only[qF,qGO0,qGO1,qGO2,qGO3,qGO4,qGO5,Nat.reduceShiftRight,Nat.reduceMod,buildV,bslV,bslW,splice,fills,repl,Nat.reduceAdd,reduceCtorEq,Nat.reduceLT,Nat.reduceLeDiff,Nat.reduceEqDiff,Int.reduceEq,qKP0,c94,c94_L1_w,hn1,dc93,hp,hat,dc84,hL,hlen,n2,Int.lt_irrefl]
     exact⟨_,_,_,rfl,name_is _,rfl,name_sm _ (by decide),by omega,gd_shift hsc⟩
    ·have hia:=hia2 r8 q8
     simp(maxDischargeDepth:=6) only[qF,qGO0,qGO1,qGO2,qGO3,qGO4,qGO5,Nat.reduceShiftRight,Nat.reduceMod,buildV,bslV,bslW,splice,fills,repl,Nat.reduceAdd,reduceCtorEq,Nat.reduceLT,Nat.reduceLeDiff,Nat.reduceEqDiff,Int.reduceEq,qKP0,c94,c94_L1_w,hn1,dc93,hp,hat,dc84,hL,hlen,n2,hr2,n8,hia,Int.lt_irrefl]
     exact⟨_,_,_,rfl,leaf_is _ _ _ nil_is,rfl,leaf_sm _ _,by omega,gd_leaf (.inr (.inl ⟨rfl,rfl,(v2 _ (List.getElem_mem _)).1,(v2 _ (List.getElem_mem _)).2⟩))⟩
   by_cases k3:kind=3
   ·subst k3
    have hia:=hia3 r5 q5
    simp(maxDischargeDepth:=6) only[qF,qGO0,qGO1,qGO2,qGO3,qGO4,qGO5,Nat.reduceShiftRight,Nat.reduceMod,buildV,bslV,bslW,splice,fills,repl,Nat.reduceAdd,reduceCtorEq,Nat.reduceLT,Nat.reduceLeDiff,Nat.reduceEqDiff,Int.reduceEq,qKP0,c94,c94_L1_w,hn1,dc93,hp,hat,dc84,hL,hlen,n5,hia,Int.lt_irrefl]
    exact⟨_,_,_,rfl,leaf_is _ _ _ nil_is,rfl,leaf_sm _ _,by omega,gd_leaf (.inr (.inr (.inl ⟨rfl,rfl,(v3 _ (List.getElem_mem _)).1,(v3 _ (List.getElem_mem _)).2⟩)))⟩
   ·have hia:=hia4 r22 q22
    simp(maxDischargeDepth:=6) only[qF,qGO0,qGO1,qGO2,qGO3,qGO4,qGO5,Nat.reduceShiftRight,Nat.reduceMod,buildV,bslV,bslW,splice,fills,repl,Nat.reduceAdd,reduceCtorEq,Nat.reduceLT,Nat.reduceLeDiff,Nat.reduceEqDiff,qKP0,c94,c94_L1_w,hn1,dc93,hp,hat,dc84,hL,hlen,k1,k2,k3,n22,hia,Int.lt_irrefl]
    exact⟨_,_,_,rfl,leaf_is _ _ _ nil_is,rfl,leaf_sm _ _,by omega,gd_leaf (.inr (.inr (.inr ((v4 _ (List.getElem_mem _)).elim (fun e=> .inl ⟨e,by omega,rfl⟩) (fun e=> .inr ⟨e,by omega,rfl⟩)))))⟩
  ·have hpos:(0:Int)<((nmsK scope kind ns).length:Int):=by omega
   obtain⟨r2,hr2,hn2⟩:=next_ev xs lT hl (a+1) (by omega) ((nmsK scope kind ns).length:Int) hpos
   have hr2':r2<(nmsK scope kind ns).length:=by omega
   have hnm:=fun fr lh sh h1 h2 h7 h8 h9 o6=>outS_names (hL fr lh sh h1 h2 h7 h8 h9 o6).2.1 hz
   have hsm:(nmsK scope kind ns)[r2].length≤100:=hnn _ (List.mem_filter.1 (List.getElem_mem hr2')).1
   have hpt:=str_part hr2'
   simp(maxDischargeDepth:=6) only[qF,qGO0,qGO1,qGO2,qGO3,qGO4,qGO5,Nat.reduceShiftRight,Nat.reduceMod,buildV,splice,fills,Nat.reduceAdd,reduceCtorEq,Nat.reduceLT,Nat.reduceLeDiff,Nat.reduceEqDiff,qKP0,c94,c94_L1_w,hn1,dc93,hp,hat,dc84,hL,hpos,hn2,hnm,hr2',hpt]
   exact⟨_,_,_,rfl,name_is _,rfl,name_sm _ hsm,by omega,gd_attr (of_decide_eq_true (List.mem_filter.1 (List.getElem_mem hr2')).2) (by omega)⟩
 ·obtain⟨r2,r8,r5,r22,q2,q8,q5,q22,n2,n8,n5,n22⟩:=tail (a+1) (by omega)
  by_cases k1:kind=1
  ·subst k1
   by_cases hr2:(r2:Int)=0
   ·rw[hr2]at n2
    simp(maxDischargeDepth:=6) only[qF,qGO0,qGO1,qGO2,qGO3,qGO4,qGO5,buildV,bslV,bslW,splice,fills,repl,Nat.reduceAdd,reduceCtorEq,Nat.reduceLT,Nat.reduceLeDiff,Nat.reduceEqDiff,Int.reduceEq,qKP0,c94,hn1,dc93,hp,n2]
    exact⟨_,_,_,rfl,name_is _,rfl,name_sm _ (by decide),by omega,gd_two hsc⟩
   ·have hia:=hia1 r8 q8
    simp(maxDischargeDepth:=6) only[qF,qGO0,qGO1,qGO2,qGO3,qGO4,qGO5,buildV,bslV,bslW,splice,fills,repl,Nat.reduceAdd,reduceCtorEq,Nat.reduceLT,Nat.reduceLeDiff,Nat.reduceEqDiff,Int.reduceEq,qKP0,c94,hn1,dc93,hp,n2,hr2,n8,hia]
    exact⟨_,_,_,rfl,leaf_is _ _ _ nil_is,rfl,leaf_sm _ _,by omega,gd_leaf (.inl ⟨rfl,rfl,(v1 _ (List.getElem_mem _)).1,(v1 _ (List.getElem_mem _)).2⟩)⟩
  by_cases k2:kind=2
  ·subst k2
   by_cases hr2:(r2:Int)=0
   ·rw[hr2]at n2
    simp(maxDischargeDepth:=6) only[qF,qGO0,qGO1,qGO2,qGO3,qGO4,qGO5,buildV,bslV,bslW,splice,fills,repl,Nat.reduceAdd,reduceCtorEq,Nat.reduceLT,Nat.reduceLeDiff,Nat.reduceEqDiff,Int.reduceEq,qKP0,c94,hn1,dc93,hp,n2]
    exact⟨_,_,_,rfl,name_is _,rfl,name_sm _ (by decide),by omega,gd_shift hsc⟩
   ·have hia:=hia2 r8 q8
    simp(maxDischargeDepth:=6) only[qF,qGO0,qGO1,qGO2,qGO3,qGO4,qGO5,buildV,bslV,bslW,splice,fills,repl,Nat.reduceAdd,reduceCtorEq,Nat.reduceLT,Nat.reduceLeDiff,Nat.reduceEqDiff,Int.reduceEq,qKP0,c94,hn1,dc93,hp,n2,hr2,n8,hia]
    exact⟨_,_,_,rfl,leaf_is _ _ _ nil_is,rfl,leaf_sm _ _,by omega,gd_leaf (.inr (.inl ⟨rfl,rfl,(v2 _ (List.getElem_mem _)).1,(v2 _ (List.getElem_mem _)).2⟩))⟩
  by_cases k3:kind=3
  ·subst k3
   have hia:=hia3 r5 q5
   simp(maxDischargeDepth:=6) only[qF,qGO0,qGO1,qGO2,qGO3,qGO4,qGO5,buildV,bslV,bslW,splice,fills,repl,Nat.reduceAdd,reduceCtorEq,Nat.reduceLT,Nat.reduceLeDiff,Nat.reduceEqDiff,Int.reduceEq,qKP0,c94,hn1,dc93,hp,n5,hia]
   exact⟨_,_,_,rfl,leaf_is _ _ _ nil_is,rfl,leaf_sm _ _,by omega,gd_leaf (.inr (.inr (.inl ⟨rfl,rfl,(v3 _ (List.getElem_mem _)).1,(v3 _ (List.getElem_mem _)).2⟩)))⟩
  ·have hia:=hia4 r22 q22
   simp(maxDischargeDepth:=6) only[qF,qGO0,qGO1,qGO2,qGO3,qGO4,qGO5,buildV,bslV,bslW,splice,fills,repl,Nat.reduceAdd,reduceCtorEq,Nat.reduceLT,Nat.reduceLeDiff,Nat.reduceEqDiff,qKP0,c94,hn1,dc93,hp,k1,k2,k3,n22,hia]
   exact⟨_,_,_,rfl,leaf_is _ _ _ nil_is,rfl,leaf_sm _ _,by omega,gd_leaf (.inr (.inr (.inr ((v4 _ (List.getElem_mem _)).elim (fun e=> .inl ⟨e,by omega,rfl⟩) (fun e=> .inr ⟨e,by omega,rfl⟩)))))⟩
end
end Go.Proofs.YtfenhjpkomldcaaGreat
