/- Types as the reference finds them. Types as the reference finds them. Types as the reference finds them. Types as the program finds them: the checker. Conditions: the theorems' own. -/
import Derived.Test.YtblcbheipjeoeaaGreatM3
import Derived.KernelRfl
set_option maxRecDepth 100000
set_option linter.unusedSimpArgs false
set_option linter.unusedVariables false
set_option maxHeartbeats 16000000
namespace Go.Proofs.YtblcbheipjeoeaaGreat
open Go Go.Ev
def iR:Cs→List T→Prop
 | [],cs=>cs= []
 |c::l,cs=> ∃ex r,cs=(T.s c.1::ex)++r∧jY c.2 ex∧iR l r
theorem iR.len: ∀{l:Cs} {cs:List T},iR l cs→cs.length=l.length*5
 | [],cs,h=>by rw[iR]at h;rw[h];rfl
 |c::l,cs,h=>by
  rw[iR]at h
  obtain⟨ex,r,rfl,h1,h2⟩:=h
  rw[List.length_append,List.length_cons,h1.len,h2.len,List.length_cons];omega
theorem iR.drop: ∀{l:Cs} {cs:List T} (k:Nat) (hk:k<l.length),iR l cs→ ∃ex r,cs.drop (k*5)=(T.s l[k].1::ex)++r∧jY l[k].2 ex∧iR (l.drop (k+1)) r
 | [],cs,k,hk,h=>by simp at hk
 |x::xs,cs,0,hk,h=>by
  rw[iR]at h
  obtain⟨c,r,rfl,h1,h2⟩:=h
  exact⟨c,r,by simp,h1,by simpa using h2⟩
 |x::xs,cs,k+1,hk,h=>by
  rw[iR]at h
  obtain⟨c,r,rfl,h1,h2⟩:=h
  obtain⟨c',r',e,h3,h4⟩:=iR.drop k (by simpa using hk) h2
  refine⟨c',r', ?_,h3,by simpa using h4⟩
  have:(k+1)*5=(T.s x.1::c).length+k*5:=by rw[List.length_cons,h1.len];omega
  rw[this,List.drop_append,Nat.add_sub_cancel_left,List.drop_eq_nil_of_le (by omega),e];rfl
theorem iR.take: ∀{l:Cs} {cs:List T} (k:Nat),iR l cs→iR (l.take k) (cs.take (k*5))
 |l,cs,0,h=>by simp[iR]
 | [],cs,k+1,h=>by rw[iR]at h;subst h;simp[iR]
 |x::xs,cs,k+1,h=>by
  rw[iR]at h
  obtain⟨c,r,rfl,h1,h2⟩:=h
  have:(k+1)*5=(T.s x.1::c).length+k*5:=by rw[List.length_cons,h1.len];omega
  rw[List.take_succ_cons,iR]
  refine⟨c,r.take (k*5), ?_,h1,iR.take k h2⟩
  rw[this,List.take_append,Nat.add_sub_cancel_left,List.take_of_length_le (by omega)]
theorem jZ{l:Cs}{a:T}{cc:List T}(h1:fD a l.length cc)(h2:iR l cc)(k:Nat)(hk:k<l.length):
  ∃b cb r,(∀kk,tf a (.i kk (k:Int)) 5=some (.vp (.s l[k].1:: .i .i64 l[k].2.op:: .i .i64 l[k].2.num:: .s l[k].2.name::b::r)))∧fD b l[k].2.args.length cb∧hH l[k].2.args cb∧jY l[k].2 [.i .i64 l[k].2.op,.i .i64 l[k].2.num,.s l[k].2.name,b]:=by
 obtain⟨c,r,e,h3,h4⟩:=iR.drop k hk h2
 obtain⟨b,cb,rfl,h5,h6⟩:=h3.cells
 refine⟨b,cb,r,fun kk=> ?_,h5,h6,h3⟩
 rw[h1.ia (sz:=5) h2.len hk,e];rfl
theorem EL: ∀{l:Cs} {s:List Nat} {i:Nat},jl l s=some i→i<l.length
 | [],s,i,h=>by simp[jl]at h
 |c::cs,s,i,h=>by
  rw[jl]at h
  split at h
  ·simp at h;subst h;simp
  ·cases hd:jl cs s with
   |none=>simp[hd]at h
   |some j=>
    simp[hd]at h
    have:=EL hd
    subst h;simpa using this
theorem yb{l:Cs}{s:List Nat}: ∀(k:Nat),k≤l.length→(∀j (h:j<k) (hl:j<l.length),l[j].1≠s)→jl l s=(jl (l.drop k) s).map (· +k)
 |0,_,_=>by simp
 |k+1,hk,h=>by
  have:=yb (l:=l) k (by omega) fun j hj hl=>h j (by omega) hl
  have jm:k<l.length:=by omega
  rw[this,List.drop_eq_getElem_cons jm,jl,if_neg (h k (by omega) jm)]
  cases jl (l.drop (k+1)) s with
  |none=>rfl
  |some i=>simp;omega
theorem yc(l:Cs)(s:List Nat): ∀n,jl (l.take n) s=match jl l s with|some i=>if i<n then some i else none|none=>none:=by
 induction l with
 |nil=>intro n;simp[jl]
 |cons c l ih=>
  intro n
  cases n with
  |zero=>
   simp only[List.take_zero,jl]
   cases h:(if c.1=s then some 0 else(jl l s).map (· +1)) <;> simp
  |succ n=>
   rw[List.take_succ_cons,jl,jl,ih n]
   by_cases h:c.1=s
   ·simp[h]
   ·rw[if_neg h,if_neg h]
    cases jl l s with
    |none=>rfl
    |some i=>simp only[Option.map_some];by_cases hi:i<n <;> simp[hi]
def R8(l:Cs)(s:List Nat):Int:=match jl l s with|none=> -1|some i=>(i:Int)
theorem Dn{l:Cs}{s:List Nat}{i:Nat}(h:jl l s=some i):R8 l s=(i:Int):=by unfold R8;rw[h]
theorem Dp{l:Cs}{s:List Nat}(h:jl l s=none):R8 l s= -1:=by unfold R8;rw[h]
theorem ajx(l:Cs)(s:List Nat)(a:T)(cc:List T)(ha:fD a l.length cc)(hc:iR l cc)(hs:l.length≤om)(o:Out)(ho:o=if jl l s=none then .ext 0 else .ret)(fr:Fr)(lh:fC fg)(sh:List fg)(h0:an fr 0=a)(h1:an fr 1= .s s)(h5:an fr 5= .i .i64 0):
  DC pE 20 (.loop ml) ⟨fr,lh,sh⟩=some (o,⟨gr pE 20 ml fr lh sh,gp pE 20 ml fr lh sh,gn pE 20 ml fr lh sh⟩)∧
  ((∀i,jl l s=some i→an (gr pE 20 ml fr lh sh) 4= .i .i64 (i:Int))∧gp pE 20 ml fr lh sh=lh∧gn pE 20 ml fr lh sh=sh):=by
 refine fq (P:=fun fr fH fL=>(∀i,jl l s=some i→an fr 4= .i .i64 (i:Int))∧fH=lh∧fL=sh) (fw (fun k st=> ∃fr:Fr,st=⟨fr,lh,sh⟩∧an fr 0=a∧an fr 1= .s s∧an fr 5= .i .i64 (k:Int)∧k≤l.length∧ ∀j (h:j<k) (hl:j<l.length),l[j].1≠s) _ l.length ?_ ?_ 0 _ (Nat.zero_le _) ⟨fr,rfl,h0,h1,h5,Nat.zero_le _,by simp⟩)
 ·rintro k _ hk ⟨fr,rfl,h0,h1,h5,pR,lU⟩
  have fK:(k:Int)<l.length:=by omega
  have hw:=fQ (k:=k) (by omega)
  have hd:=yb k pR lU
  rw[List.drop_eq_getElem_cons hk,jl]at hd
  obtain⟨b,cb,r,fF,_,_,_⟩:=jZ ha hc k hk
  by_cases j6:l[k].1=s
  ·right
   rw[if_pos j6]at hd
   simp only[Option.map_some,Nat.zero_add]at hd
   simp(maxDischargeDepth:=6) only[qA,seval,ml,h0,h1,h5,ha.lenI,fK,fF,j6]
   refine⟨_,_,(by simp:Out.ret≠ .nrm),rfl,by rw[ho,hd];rfl,fun i hi=> ?_,rfl,rfl⟩
   rw[hd]at hi
   cases hi
   simp(maxDischargeDepth:=6) only[qA,seval]
  ·left
   simp(maxDischargeDepth:=6) only[qA,seval,ml,h0,h1,h5,ha.lenI,fK,fF,j6,hw]
   refine⟨_,rfl,_,rfl, ?_, ?_, ?_,by omega, ?_⟩
   all_goals first|(simp(maxDischargeDepth:=6) only[qA,seval,h0,h1];done)|skip
   intro j hj hl
   by_cases e:j=k
   ·subst e;exact j6
   ·exact lU j (by omega) hl
 ·rintro _ ⟨fr,rfl,h0,h1,h5,pR,lU⟩
  have hd:=yb l.length pR lU
  rw[List.drop_length,jl]at hd
  simp(maxDischargeDepth:=6) only[qA,seval,ml,h0,h5,ha.lenI,Int.lt_irrefl]
  refine⟨_,_,(by simp:Out.ext 0≠ .nrm),rfl,by rw[ho,hd];rfl,fun i hi=> ?_,rfl,rfl⟩
  rw[hd]at hi;cases hi
theorem V9(l:Cs)(s:List Nat)(a:T)(cc:List T)(ha:fD a l.length cc)(hc:iR l cc)(hs:l.length≤om):fj pE 126 [a,.s s] []=some (.i .i64 (R8 l s),[]):=by
 have hL:=fun fr lh sh=>ajx l s a cc ha hc hs _ rfl fr lh sh
 rw[fx Wx (by simp[Lk])]
 cases hd:jl l s with
 |none=>
  rw[Dp hd]
  simp only[hd,if_true,reduceCtorEq,false_implies,implies_true,true_and]at hL
  simp(maxDischargeDepth:=6) only[qA,seval,Lk,hL]
 |some i=>
  rw[Dn hd]
  simp only[hd,reduceCtorEq,if_false,Option.some.injEq,forall_eq']at hL
  simp(maxDischargeDepth:=6) only[qA,seval,Lk,hL]
end Go.Proofs.YtblcbheipjeoeaaGreat
namespace Go.Proofs.YtblcbheipjeoeaaGreat
open Go Go.Ev
def EM(ts:List Int):Except Int (List Int)→Except Int (List Int)
 | .error e=> .error e
 | .ok us=> .ok (ts++us)
def Jl:Except Int (List Int)→Out
 | .error _=> .ret
 | .ok _=> .ext 0
theorem Hn{cl:List Nat→Int×Int}{scope:Int}{xs:List Ex}{k:Nat}(hk:k<xs.length):pB cl scope (xs.drop k)=if(xs[k].ty cl scope).2≠0 then .error (xs[k].ty cl scope).2 else EM [(xs[k].ty cl scope).1] (pB cl scope (xs.drop (k+1))):=by
 rw[uD hk,pB]
 split
 ·rfl
 ·cases pB cl scope (xs.drop (k+1)) <;> rfl
theorem Dq(a b:List Int)(x:Except Int (List Int)):EM a (EM b x)=EM (a++b) x:=by cases x <;> simp[EM]
theorem xm{cl:List Nat→Int×Int}{scope:Int}: ∀{xs:List Ex} {ts:List Int},pB cl scope xs= .ok ts→ts.length=xs.length
 | [],ts,h=>by rw[pB]at h;cases h;rfl
 |x::xs,ts,h=>by
  rw[pB]at h
  split at h
  ·cases h
  ·cases hx:pB cl scope xs with
   |error e=>rw[hx]at h;cases h
   |ok us=>rw[hx]at h;cases h;simp[xm hx]
theorem ub{lh:fC fg}{sh:List fg}{v:T}{k n:Nat}{cs:List T}(h:jk lh v k 1 n cs)(hn:n≤om)(x:T)(ex:Bool):
  appW lh sh k 1 8 v (.sl [x] 1 ex)=some (SS lh sh k 1 8 v (.sl [x] 1 ex),EZ lh sh k 1 8 v (.sl [x] 1 ex))∧jk (EZ lh sh k 1 8 v (.sl [x] 1 ex)) (SS lh sh k 1 8 v (.sl [x] 1 ex)) k 1 (n+1) (cs++ [x])∧ ∀j,j≠k→be (EZ lh sh k 1 8 v (.sl [x] 1 ex)) j=be lh j:=
 jk.appW h (m:=0) (by rw[PH];rfl) rfl (by unfold roomy;unfold om at hn;omega)
section
variable(l:Cs)(tab:List (Int×Int))(lT kT eT:T)(cl:List T)(hl:fD lT l.length cl)(kg:iR l cl)(hlen:l.length≤om)(abG:tab.length=l.length)(hk:fD kT tab.length (ints (tab.map (·.1))))(he:fD eT tab.length (ints (tab.map (·.2))))
def ajy(scope:Int)(y:Ex):Prop:= ∀cs:List T,jY y cs→y.nodes≤100000→y.wf=true→fj pE 197 [.agg [kT,eT],lT,.i .i64 scope,.agg cs] []=some (.tup [.i .i64 (y.ty (xh l tab) scope).1,.i .i64 (y.ty (xh l tab) scope).2],[])
include hl hk he
theorem aon(scope:Int)(xs:List Ex)(ih: ∀y∈xs,ajy l tab lT kT eT scope y)(a:T)(cc:List T)(ha:fD a xs.length cc)(hx:hH xs cc)(hn:gP xs≤100000)(uE:sk xs=true)(op num:Int)(s:List Nat)(r:Except Int (List Int))(hr:r=pB (xh l tab) scope xs)(o:Out)(ho:o=Jl r)(g g4:Nat)(fr:Fr)(lh:fC fg)(sh:List fg)
  (h1:an fr 1=lT) (h2:an fr 2= .i .i64 scope) (h4:an fr 4= .ptr .L 4 g4 0) (h7:an fr 7= .ptr .L 7 g 0) (nJ:an fr 10= .nilsl) (nR:an fr 11= .i .i64 0) (o4:be lh 4=⟨g4,.cells [kT,eT] 0 true⟩) (o7:be lh 7=⟨g,.cells [.i .i64 op,.i .i64 num,.s s,a] 0 true⟩):
  DC pE 80 (.loop jU) ⟨fr,lh,sh⟩=some (o,⟨gr pE 80 jU fr lh sh,gp pE 80 jU fr lh sh,gn pE 80 jU fr lh sh⟩)∧
  ((∀e,r= .error e→an (gr pE 80 jU fr lh sh) 8= .i .i64 0∧an (gr pE 80 jU fr lh sh) 9= .i .i64 e)∧(∀ts,r= .ok ts→jk (gp pE 80 jU fr lh sh) (an (gr pE 80 jU fr lh sh) 10) 43 1 ts.length (ints ts))∧
    be (gp pE 80 jU fr lh sh) 4=be lh 4∧be (gp pE 80 jU fr lh sh) 7=be lh 7∧gn pE 80 jU fr lh sh=sh):=by
 refine fq (P:=fun fR fH fL=>(∀e,r= .error e→an fR 8= .i .i64 0∧an fR 9= .i .i64 e)∧(∀ts,r= .ok ts→jk fH (an fR 10) 43 1 ts.length (ints ts))∧be fH 4=be lh 4∧be fH 7=be lh 7∧fL=sh)
  (fw (fun k st=> ∃(fr:Fr) (fG:fC fg) (ts:List Int),st=⟨fr,fG,sh⟩∧an fr 1=lT∧an fr 2= .i .i64 scope∧an fr 4= .ptr .L 4 g4 0∧an fr 7= .ptr .L 7 g 0∧an fr 11= .i .i64 (k:Int)∧be fG 4=be lh 4∧be fG 7=be lh 7∧
    jk fG (an fr 10) 43 1 k (ints ts)∧ts.length=k∧r=EM ts (pB (xh l tab) scope (xs.drop k))) _ xs.length ?_ ?_ 0 _ (Nat.zero_le _) ⟨fr,lh,[],rfl,h1,h2,h4,h7,nR,rfl,rfl,by rw[nJ];exact jk.nil,rfl,by rw[hr,List.drop_zero];cases pB (xh l tab) scope xs <;> rfl⟩)
 ·rintro k _ NH ⟨fr,fG,ts,rfl,h1,h2,h4,h7,nR,YI,Wa,hO,uI,lN⟩
  rw[o4]at YI
  rw[o7]at Wa
  have fK:(k:Int)<xs.length:=by omega
  have Gc:=ju xs
  have hyk:=mP (List.getElem_mem NH)
  have hw:=fQ (k:=k) (ku (by omega))
  obtain⟨b,cb,rr,fF,iK,oS,hb⟩:=nw ha hx k NH
  have fu:=ih xs[k] (List.getElem_mem NH) _ hb (by omega) (zE.1 uE _ (List.getElem_mem NH))
  rw[Hn NH]at lN
  by_cases hf:(xs[k].ty (xh l tab) scope).2=0
  ·left
   rw[if_neg (by simp[hf]),Dq]at lN
   have S0:=ub hO (ku (by omega)) (sh:=sh) (T.i .i64 (xs[k].ty (xh l tab) scope).1) true
   generalize xs[k].ty (xh l tab) scope=q at fu hf lN S0
   obtain⟨q1,q2⟩:=q
   simp only at fu hf lN S0
   subst hf
   generalize nJ:an fr 10=v10 at hO S0
   simp(maxDischargeDepth:=6) only[qA,seval,repl,gW,fU,jU,h1,h2,h4,h7,nJ,nR,YI,Wa,ha.lenI,fK,fF,hw,fu,OI,OJ,iK.froz1,hk.froz1,he.froz1,hl.froz,hO.notS,S0.1]
   refine⟨_,rfl,_,_,ts++ [q1],rfl, ?_, ?_, ?_, ?_, ?_, ?_, ?_, ?_,by simp[uI],lN⟩
   all_goals first|(simp(maxDischargeDepth:=6) only[qA,seval,h1,h2,h4,h7];done)|skip
   ·rw[S0.2.2 4 (by decide),YI,o4]
   ·rw[S0.2.2 7 (by decide),Wa,o7]
   ·simp(maxDischargeDepth:=6) only[qA,seval]
    rw[show ints (ts++ [q1])=ints ts++ [.i .i64 q1]by simp[ints]]
    exact S0.2.1
  ·right
   rw[if_pos (by simp[hf])]at lN
   generalize xs[k].ty (xh l tab) scope=q at fu hf lN
   obtain⟨q1,q2⟩:=q
   simp only at fu hf lN
   simp(maxDischargeDepth:=6) only[qA,seval,gW,fU,jU,h1,h2,h4,h7,nR,YI,Wa,ha.lenI,fK,fF,fu,OI,OJ,iK.froz1,hk.froz1,he.froz1,hl.froz,hf]
   refine⟨_,_,(by simp:Out.ret≠ .nrm),rfl,by rw[ho,lN];rfl,fun e he=> ?_,fun t ht=>(by rw[lN]at ht;cases ht),by rw[YI,o4],by rw[Wa,o7],rfl⟩
   rw[lN]at he
   cases he
   exact⟨by simp(maxDischargeDepth:=6) only[qA,seval],by simp(maxDischargeDepth:=6) only[qA,seval]⟩
 ·rintro _ ⟨fr,fG,ts,rfl,h1,h2,h4,h7,nR,YI,Wa,hO,uI,lN⟩
  rw[o4]at YI
  rw[o7]at Wa
  rw[List.drop_length,pB,EM,List.append_nil]at lN
  simp(maxDischargeDepth:=6) only[qA,seval,jU,h7,nR,Wa,ha.lenI,Int.lt_irrefl]
  refine⟨_,_,(by simp:Out.ext 0≠ .nrm),rfl,by rw[ho,lN];rfl,fun e he=>(by rw[lN]at he;cases he),fun t ht=> ?_,by rw[YI,o4],by rw[Wa,o7],rfl⟩
  rw[lN]at ht
  cases ht
  simp(maxDischargeDepth:=6) only[qA,seval]
  rw[uI];exact hO
include kg hlen abG
theorem R9(scope:Int)(x:Ex):ajy l tab lT kT eT scope x:=by
 induction x using Ex.ind with
 |h x ih=>
  intro cs hx hn uE
  obtain⟨a,cc,rfl,ha,Bb⟩:=hx.cells
  rw[fx Fv (by simp[BT]),Ex.ty_eq]
  have hnd:=x.nodes_eq
  rw[Ex.wf_eq,Bool.and_eq_true]at uE
  obtain⟨lU,E3⟩:=uE
  have hL:=fun fr lh sh=>aon l tab lT kT eT cl hl hk he scope x.args (fun y hy=>ih y hy) a cc ha Bb (by omega) E3 x.op x.num x.name _ rfl _ rfl 1 1 fr lh sh
  have mW:=GB scope x.name
  have hci:=V9 l x.name lT cl hl kg hlen
  have L1:=ju x.args
  have Ho:x.args.length≤om:=ku (by omega)
  simp only[nE,Bool.and_eq_true,decide_eq_true_eq]at lU
  obtain⟨abH,abI,iA,_,_⟩:=lU
  by_cases h6:x.op=6
  ·rw[if_pos h6]
   have jW:x.args= []:=by
    rw[h6]at iA
    simp[iI]at iA
    exact iA
   rw[jW]at hL
   simp only[pB,Jl,reduceCtorEq,false_implies,implies_true,Except.ok.injEq,forall_eq',true_and]at hL
   unfold tS at mW
   by_cases hz:jc scope x.name=0
   ·rw[if_neg (by simp[hz])]
    rw[if_pos hz,hz]at mW
    cases hi:jl l x.name with
    |none=>
     rw[Dp hi]at hci
     have:xh l tab x.name=(0,6):=by unfold xh;rw[hi]
     rw[this]
     simp(maxDischargeDepth:=6) only[qA,seval,BT,rC,h6,hL,mW,yn,hci,Wy,hl.froz]
    |some i=>
     rw[Dn hi]at hci
     have jm:=EL hi
     have Rl: ¬(i:Int)<0:=by omega
     have e1:=fun kk=>vO (ts:=tab.map (·.1)) (by simpa using hk) (k:=i) (by simp;omega) kk
     have e2:=fun kk=>vO (ts:=tab.map (·.2)) (by simpa using he) (k:=i) (by simp;omega) kk
     have:xh l tab x.name=tab[i]'(by omega):=by unfold xh;rw[hi];simp[List.getD_eq_getElem?_getD,List.getElem?_eq_getElem (show i<tab.length by omega)]
     rw[this]
     simp only[List.getElem_map]at e1 e2
     simp(maxDischargeDepth:=6) only[qA,seval,BT,rC,h6,hL,mW,yn,hci,Wy,hl.froz,Rl,e1,e2]
   ·rw[if_pos hz]
    rw[if_neg hz]at mW
    simp(maxDischargeDepth:=6) only[qA,seval,BT,rC,h6,hL,mW,yn]
  ·rw[if_neg h6]
   cases hr:pB (xh l tab) scope x.args with
   |error e=>
    simp only[hr,Jl,Except.error.injEq,reduceCtorEq,false_implies,implies_true,forall_eq',true_and]at hL
    simp(maxDischargeDepth:=6) only[qA,seval,BT,hL]
   |ok ts=>
    have BD:=xm hr
    simp only[hr,Jl,Except.ok.injEq,reduceCtorEq,false_implies,implies_true,forall_eq',true_and]at hL
    have hO:=fun fr lh sh h1 h2 h4 h7 nJ nR o4 o7=>jk.fzV (sh:=sh) (keep:=false) (hL fr lh sh h1 h2 h4 h7 nJ nR o4 o7).2.1
    have wz:=Jk x.op ts (wR ts.length (ints ts)) (wS (fun h0=>by rw[List.length_eq_zero_iff.1 h0];rfl)) (by rw[BD];exact Ho) abH abI h6 (by rw[BD];exact iA)
    by_cases hz:kO x.op ts=0
    ·rw[hz]at wz
     simp(maxDischargeDepth:=6) only[qA,seval,BT,rC,h6,hL,hO,wz,Xm,hz]
    ·simp(maxDischargeDepth:=6) only[qA,seval,BT,rC,h6,hL,hO,wz,Xm,hz]
end
end Go.Proofs.YtblcbheipjeoeaaGreat
namespace Go.Proofs.YtblcbheipjeoeaaGreat
open Go Go.Ev
theorem lE(l:Cs): ∀n,(jw l n).length=n
 |0=>rfl
 |n+1=>by rw[jw,List.length_append,lE l n];rfl
theorem uF(l:Cs){n:Nat}(h:n<l.length):jw l (n+1)=jw l n++ [Ce (l.take n) (jw l n) l[n].2]:=by
 rw[jw];simp[List.getD_eq_getElem?_getD,List.getElem?_eq_getElem h]
def Q1(l:Cs):Prop:= ∀c∈l,0≤c.2.nodes∧c.2.sm
theorem Hp(a:List Int)(x:Int):ints (a++ [x])=ints a++ [.i .i64 x]:=by simp[ints]
section
variable(l:Cs)(lT:T)(cl:List T)(hl:fD lT l.length cl)(kg:iR l cl)(hlen:l.length≤om)(oh:Q1 l)
include hl kg hlen oh
theorem aoo(g2 g3:Nat)(fr:Fr)(lh:fC fg)(sh:List fg)
  (h0:an fr 0=lT) (h2:an fr 2= .ptr .L 2 g2 0) (h3:an fr 3= .ptr .L 3 g3 0) (h4:an fr 4= .i .i64 0) (o2:be lh 2=⟨g2,.cells [.nilsl,.nilsl] 0 true⟩) (o3:be lh 3=⟨g3,.cells [.nilsl,.nilsl] 0 true⟩):
  DC pE 47 (.loop kS) ⟨fr,lh,sh⟩=some (.ext 0,⟨gr pE 47 kS fr lh sh,gp pE 47 kS fr lh sh,gn pE 47 kS fr lh sh⟩)∧
  (be (gp pE 47 kS fr lh sh) 2=⟨g2,.cells [.nilsl,.nilsl] 0 true⟩∧(∃v1 v2,be (gp pE 47 kS fr lh sh) 3=⟨g3,.cells [v1,v2] 0 true⟩∧jk (gp pE 47 kS fr lh sh) v1 38 1 l.length (ints ((jw l l.length).map (·.1)))∧jk (gp pE 47 kS fr lh sh) v2 43 1 l.length (ints ((jw l l.length).map (·.2))))∧gn pE 47 kS fr lh sh=sh):=by
 refine fq (P:=fun fR fH fL=>be fH 2=⟨g2,.cells [.nilsl,.nilsl] 0 true⟩∧(∃v1 v2,be fH 3=⟨g3,.cells [v1,v2] 0 true⟩∧jk fH v1 38 1 l.length (ints ((jw l l.length).map (·.1)))∧jk fH v2 43 1 l.length (ints ((jw l l.length).map (·.2))))∧fL=sh)
  (fw (fun k st=> ∃(fr:Fr) (fG:fC fg) (v1 v2:T),st=⟨fr,fG,sh⟩∧an fr 0=lT∧an fr 2= .ptr .L 2 g2 0∧an fr 3= .ptr .L 3 g3 0∧an fr 4= .i .i64 (k:Int)∧be fG 2=⟨g2,.cells [.nilsl,.nilsl] 0 true⟩∧be fG 3=⟨g3,.cells [v1,v2] 0 true⟩∧
    jk fG v1 38 1 k (ints ((jw l k).map (·.1)))∧jk fG v2 43 1 k (ints ((jw l k).map (·.2)))) _ l.length ?_ ?_ 0 _ (Nat.zero_le _) ⟨fr,lh,.nilsl,.nilsl,rfl,h0,h2,h3,h4,o2,o3,jk.nil,jk.nil⟩)
 ·rintro k _ hk ⟨fr,fG,v1,v2,rfl,h0,h2,h3,h4,o2,o3,NI,NJ⟩
  left
  have fK:(k:Int)<l.length:=by omega
  have hw:=fQ (k:=k) (by omega)
  obtain⟨b,cb,r,fF,iK,oS,hb⟩:=jZ hl kg k hk
  obtain⟨HD,A9⟩:=oh l[k] (List.getElem_mem hk)
  have hval:=pV l[k].2 _ hb A9
  rw[uF l hk,List.map_append,List.map_append]
  simp only[List.map_cons,List.map_nil,Hp]
  unfold Ce
  by_cases hv:fP l[k].2=0
  ·rw[if_neg (by simp[hv])]
   rw[hv]at hval
   have uE:l[k].2.wf=true:=by
    unfold fP at hv
    by_cases wy:big l[k].2
    ·rw[if_pos wy]at hv;cases hv
    ·rw[if_neg wy]at hv
     cases hx:l[k].2.wf with
     |true=>rfl
     |false=>rw[hx]at hv;cases hv
   rcases hl with⟨_,hz,_⟩|⟨ex,rfl⟩
   ·omega
   have pR:k≤l.length:=by omega
   have Vs:=kg.len
   have lN:=R9 (l.take k) (jw l k) (.sl (List.take (k*5) cl) k (ex&&decide (k=l.length))) (wR k (ints ((jw l k).map (·.1)))) (wR k (ints ((jw l k).map (·.2)))) (cl.take (k*5)) (Or.inr ⟨_,by rw[List.length_take,Nat.min_eq_left pR]⟩) (kg.take k) (by rw[List.length_take];omega) (by rw[lE,List.length_take,Nat.min_eq_left pR])
    (by rw[lE];exact NI.isl) (by rw[lE];exact NJ.isl) 0 l[k].2 _ hb (by have:=Bz hv;omega) uE
   generalize l[k].2.ty (xh (l.take k) (jw l k)) 0=q at lN ⊢
   obtain⟨q1,q2⟩:=q
   simp only at lN ⊢
   have Jm:=ub NI (by omega) (sh:=sh) (T.i .i64 q1) true
   have Bw:=ub (NJ.congr (Jm.2.2 43 (by decide))) (by omega) (sh:=sh) (T.i .i64 q2) true
   have e3:be (EZ fG sh 38 1 8 v1 (.sl [.i .i64 q1] 1 true)) 3=⟨g3,.cells [v1,v2] 0 true⟩:=by rw[Jm.2.2 3 (by decide),o3]
   have e4:be (EZ (EZ fG sh 38 1 8 v1 (.sl [.i .i64 q1] 1 true)) sh 43 1 8 v2 (.sl [.i .i64 q2] 1 true)) 3=⟨g3,.cells [v1,v2] 0 true⟩:=by rw[Bw.2.2 3 (by decide),e3]
   simp(maxDischargeDepth:=6) only[qA,seval,tN,repl,gW,AZ,fU,nM,kS,h0,h3,h4,o3,fK,fF,hw,hval,sW,iK.froz1,pR,Vs,Nat.sub_zero,Nat.le_refl,NI.fzW,NJ.fzW,af4,af5,lN,NI.notS,NJ.notS,sM NI,sM NJ,Jm.1,Bw.1,e3,e4,Jm.2.1.cells,Jm.2.1.noTup,Bw.2.1.cells,Bw.2.1.noTup]
   refine⟨_,rfl,_,_,SS fG sh 38 1 8 v1 (.sl [.i .i64 q1] 1 true),SS (EZ fG sh 38 1 8 v1 (.sl [.i .i64 q1] 1 true)) sh 43 1 8 v2 (.sl [.i .i64 q2] 1 true),rfl, ?_, ?_, ?_, ?_, ?_, ?_, ?_, ?_⟩
   all_goals first|(simp(maxDischargeDepth:=6) only[qA,seval,h0,h2,h3];done)|skip
   ·simp(maxDischargeDepth:=6) only[qA,seval];rw[Bw.2.2 2 (by decide),Jm.2.2 2 (by decide),o2]
   ·refine jk.congr (lh:=EZ fG sh 38 1 8 v1 (.sl [.i .i64 q1] 1 true)) Jm.2.1 ?_
    simp(maxDischargeDepth:=6) only[qA,seval]
    exact Bw.2.2 38 (by decide)
   ·refine jk.congr Bw.2.1 ?_
    simp(maxDischargeDepth:=6) only[qA,seval]
  ·rw[if_pos hv]
   obtain⟨q1,h1q⟩: ∃q:Int,q=0:=⟨0,rfl⟩
   rw[←h1q]
   have YJ:=hval
   generalize wJ:fP l[k].2=q2 at YJ hv ⊢
   have Jm:=ub NI (by omega) (sh:=sh) (T.i .i64 q1) true
   have Bw:=ub (NJ.congr (Jm.2.2 43 (by decide))) (by omega) (sh:=sh) (T.i .i64 q2) true
   have e3:be (EZ fG sh 38 1 8 v1 (.sl [.i .i64 q1] 1 true)) 3=⟨g3,.cells [v1,v2] 0 true⟩:=by rw[Jm.2.2 3 (by decide),o3]
   have e4:be (EZ (EZ fG sh 38 1 8 v1 (.sl [.i .i64 q1] 1 true)) sh 43 1 8 v2 (.sl [.i .i64 q2] 1 true)) 3=⟨g3,.cells [v1,v2] 0 true⟩:=by rw[Bw.2.2 3 (by decide),e3]
   subst h1q
   simp(maxDischargeDepth:=6) only[qA,seval,tN,repl,gW,AZ,fU,nM,kS,h0,h3,h4,o3,hl.lenI,fK,fF,hw,YJ,sW,iK.froz1,hv,NI.notS,NJ.notS,sM NI,sM NJ,Jm.1,Bw.1,e3,e4,Jm.2.1.cells,Jm.2.1.noTup,Bw.2.1.cells,Bw.2.1.noTup]
   refine⟨_,rfl,_,_,SS fG sh 38 1 8 v1 (.sl [.i .i64 0] 1 true),SS (EZ fG sh 38 1 8 v1 (.sl [.i .i64 0] 1 true)) sh 43 1 8 v2 (.sl [.i .i64 q2] 1 true),rfl, ?_, ?_, ?_, ?_, ?_, ?_, ?_, ?_⟩
   all_goals first|(simp(maxDischargeDepth:=6) only[qA,seval,h0,h2,h3];done)|skip
   ·simp(maxDischargeDepth:=6) only[qA,seval];rw[Bw.2.2 2 (by decide),Jm.2.2 2 (by decide),o2]
   ·refine jk.congr (lh:=EZ fG sh 38 1 8 v1 (.sl [.i .i64 0] 1 true)) Jm.2.1 ?_
    simp(maxDischargeDepth:=6) only[qA,seval]
    exact Bw.2.2 38 (by decide)
   ·refine jk.congr Bw.2.1 ?_
    simp(maxDischargeDepth:=6) only[qA,seval]
 ·rintro _ ⟨fr,fG,v1,v2,rfl,h0,h2,h3,h4,o2,o3,NI,NJ⟩
  simp(maxDischargeDepth:=6) only[qA,seval,kS,h0,h4,hl.lenI,Int.lt_irrefl]
  exact⟨_,_,(by simp:Out.ext 0≠ .nrm),rfl,rfl,o2,⟨v1,v2,o3,NI,NJ⟩,rfl⟩
theorem abJ:fj pE 198 [lT] []=some (.agg [wR l.length (ints ((jw l l.length).map (·.1))),wR l.length (ints ((jw l l.length).map (·.2)))],[]):=by
 have VB:=fun fr lh sh h0 h2 h3 h4 o2 o3=>aoo l lT cl hl kg hlen oh 1 1 fr lh sh h0 h2 h3 h4 o2 o3
 have hL:=fun fr lh sh h0 h2 h3 h4 o2 o3=>And.intro (VB fr lh sh h0 h2 h3 h4 o2 o3).1 (And.intro (VB fr lh sh h0 h2 h3 h4 o2 o3).2.1 (And.intro (D9 (VB fr lh sh h0 h2 h3 h4 o2 o3).2.2.1).1 (VB fr lh sh h0 h2 h3 h4 o2 o3).2.2.2))
 have NI:=fun m keep fL e fr lh sh h0 h2 h3 h4 o2 o3=>jk.fzW (m:=m) (keep:=keep) (sh:=fL) (jk.congr (D9 (VB fr lh sh h0 h2 h3 h4 o2 o3).2.2.1).2.1 (gO (k:=2) (m:=38) _ e (by decide)))
 have NJ:=fun m keep fL e fr lh sh h0 h2 h3 h4 o2 o3=>jk.fzW (m:=m) (keep:=keep) (sh:=fL) (jk.congr (D9 (VB fr lh sh h0 h2 h3 h4 o2 o3).2.2.1).2.2 (gO (k:=2) (m:=43) _ e (by decide)))
 rw[fx OK (by simp[N1])]
 simp(maxDischargeDepth:=6) only[qA,seval,N1,Lx,hL,NI,NJ,am6]
theorem GJ(scope:Int)(x:Ex)(cs:List T)(hx:jY x cs)(hn:0≤x.nodes)(hs:x.sm):fj pE 122 [lT,.i .i64 scope,.agg cs] []=some (.tup [.i .i64 (qX l scope x).1,.i .i64 (qX l scope x).2],[]):=by
 have hval:=pV x cs hx hs
 have abG:=abJ l lT cl hl kg hlen oh
 have hO:fD (wR l.length (ints ((jw l l.length).map (·.1)))) l.length (ints ((jw l l.length).map (·.1))):=wS fun h0=>by rw[h0];rfl
 have hO':fD (wR l.length (ints ((jw l l.length).map (·.2)))) l.length (ints ((jw l l.length).map (·.2))):=wS fun h0=>by rw[h0];rfl
 have lN:=fun(G6:fP x=0) hw=>R9 l (jw l l.length) lT _ _ cl hl kg hlen (lE l _) (by rw[lE];exact hO) (by rw[lE];exact hO') scope x cs hx (by have:=Bz G6;omega) hw
 obtain⟨a,cc,rfl,ha,Bb⟩:=hx.cells
 rw[fx Oq (by simp[Lj])]
 unfold qX
 by_cases hv:fP x=0
 ·rw[if_neg (by simp[hv])]
  rw[hv]at hval
  have uE:x.wf=true:=by
   unfold fP at hv
   by_cases wy:big x
   ·rw[if_pos wy]at hv;cases hv
   ·rw[if_neg wy]at hv
    cases hx:x.wf with
    |true=>rfl
    |false=>rw[hx]at hv;cases hv
  have lN:=lN hv uE
  generalize x.ty (xh l (jw l l.length)) scope=q at lN ⊢
  simp(maxDischargeDepth:=6) only[qA,seval,gW,fU,Lj,hval,sW,ha.froz1,abG,af6,af7,hl.froz,lN,OI,OJ,hO.froz1,hO'.froz1]
 ·rw[if_pos hv]
  generalize fP x=e at hval hv ⊢
  simp(maxDischargeDepth:=6) only[qA,seval,Lj,hval,sW,ha.froz1,hv]
end
end Go.Proofs.YtblcbheipjeoeaaGreat
namespace Go.Proofs.YtblcbheipjeoeaaGreat
open Go Go.Ev
theorem BE{α:Type}: ∀(A R:List α) (j:Nat) (vs:List α),splice (A++R) (A.length+j) vs=A++splice R j vs
 | [],R,j,vs=>by simp
 |a::A,R,j,vs=>by
  rw[List.cons_append,List.length_cons,show A.length+1+j=(A.length+j)+1 by omega,splice,BE A R j vs];rfl
theorem yU{α:Type}: ∀(z R vs:List α),vs.length=z.length→splice (z++R) 0 vs=vs++R
 | [],R,[],_=>by cases R <;> rfl
 |c::z,R,v::vs,h=>by rw[List.cons_append,splice,yU z R vs (by simpa using h)];rfl
theorem BF{α:Type}(A z R vs:List α)(k:Nat)(hk:A.length=k)(h:vs.length=z.length):splice (A++(z++R)) k vs=(A++vs)++R:=by
 have:=BE A (z++R) 0 vs
 rw[Nat.add_zero,hk]at this
 rw[this,yU z R vs h,List.append_assoc]
theorem yf{α:Type}(z:List α)(n:Nat):repl z (n+1)=z++repl z n:=rfl
theorem BG{α:Type}(z:List α): ∀n,(repl z n).length=n*z.length
 |0=>by simp[repl]
 |n+1=>by rw[yf,List.length_append,BG z n,Nat.succ_mul,Nat.add_comm]
def gG(l:Cs):Nat→List (List Nat×Nat)
 |0=> []
 |n+1=>match fO (gG l n) (l.getD n ([],.mk 0 0 [] [])).1 with
  |none=>gG l n++ [((l.getD n ([],.mk 0 0 [] [])).1,n)]
  |some _=>gG l n
theorem yg(l:Cs){n:Nat}(h:n<l.length):gG l (n+1)=match fO (gG l n) l[n].1 with
  |none=>gG l n++ [(l[n].1,n)]
  |some _=>gG l n:=by
 rw[gG];simp[List.getD_eq_getElem?_getD,List.getElem?_eq_getElem h]
theorem Dr(s:List Nat)(c:List Nat×Ex): ∀l:Cs,jl (l++ [c]) s=match jl l s with|some i=>some i|none=>if c.1=s then some l.length else none
 | []=>by simp[jl]
 |d::l=>by
  rw[List.cons_append,jl,jl,Dr s c l]
  by_cases h:d.1=s
  ·simp[h]
  ·rw[if_neg h,if_neg h]
   cases jl l s with
   |some i=>rfl
   |none=>by_cases h2:c.1=s <;> simp[h2]
theorem uG(l:Cs)(s:List Nat): ∀n,n≤l.length→fO (gG l n) s=jl (l.take n) s
 |0,_=>by simp[gG,fO,jl]
 |n+1,h=>by
  have hn:n<l.length:=by omega
  rw[yg l hn,List.take_succ_eq_append_getElem hn,Dr]
  have ih:=uG l s n (by omega)
  have ih2:=uG l l[n].1 n (by omega)
  cases hl:fO (gG l n) l[n].1 with
  |none=>
   simp only
   rw[pU,ih]
   cases jl (l.take n) s with
   |some i=>rfl
   |none=>
    simp only[List.length_take,Nat.min_eq_left (Nat.le_of_lt hn)]
    by_cases e:s=l[n].1
    ·simp[e]
    ·rw[if_neg e,if_neg (fun h=>e h.symm)]
  |some i=>
   simp only
   rw[ih]
   cases hi:jl (l.take n) s with
   |some j=>rfl
   |none=>
    simp only
    rw[if_neg]
    intro e
    rw[hl,e,hi]at ih2
    cases ih2
def sK(s:List Nat):T:= .s s
def nK(n:Nat):T:= .i .i64 (n:Int)
def iV(n:Int):T:= .i .i64 n
theorem Er(a b:List Nat):tB (.one .str) (sK a) (sK b)=some (decide (a=b)):=ahM
theorem Wb(a b:Nat):tB (.one .int) (nK a) (nK b)=some (decide (a=b)):=by
 unfold nK;rw[ahN];congr 1;rw[decide_eq_decide];omega
def xx(lT:T)(m:List (List Nat×Nat))(kn:List (Nat×Int)):List fg:=
 [⟨1,.map (m.map fun p=>sK p.1) (m.map fun p=>nK p.2) false⟩,⟨1,.map (kn.map fun p=>nK p.1) (kn.map fun p=>iV p.2) false⟩,⟨1,.cells [lT,.mp .S 0 1,.mp .S 1 1] 0 true⟩]
section
variable(lT:T)(m:List (List Nat×Nat))(kn:List (Nat×Int))
theorem ch0:gC (xx lT m kn) 0=⟨1,.map (m.map fun p=>sK p.1) (m.map fun p=>nK p.2) false⟩:=nr rfl
theorem ch1:gC (xx lT m kn) 1=⟨1,.map (kn.map fun p=>nK p.1) (kn.map fun p=>iV p.2) false⟩:=nr rfl
theorem YK:gC (xx lT m kn) 2=⟨1,.cells [lT,.mp .S 0 1,.mp .S 1 1] 0 true⟩:=nr rfl
theorem aor(m':List (List Nat×Nat)):il (xx lT m kn) 0 ⟨1,.map (m'.map fun p=>sK p.1) (m'.map fun p=>nK p.2) false⟩=xx lT m' kn:=nr rfl
theorem aos(hJ:List (Nat×Int)):il (xx lT m kn) 1 ⟨1,.map (hJ.map fun p=>nK p.1) (hJ.map fun p=>iV p.2) false⟩=xx lT m hJ:=nr rfl
theorem ajA:xx lT [] []= [⟨1,.map [] [] false⟩,⟨1,.map [] [] false⟩,⟨1,.cells [lT,.mp .S 0 1,.mp .S 1 1] 0 true⟩]:=nr rfl
end
def NK(r:Option Nat):T:=match r with|some v=> .tup [nK v,.b true]|none=> .tup [.i .i64 0,.b false]
theorem lkS(m:List (List Nat×Nat))(s:List Nat):mX (.one .str) (m.map fun p=>sK p.1) (m.map fun p=>nK p.2) (.s s) (.i .i64 0) true=some (NK (fO m s)):=by
 have:=aaN (kT:=sK) (vT:=nK) Er (fun _=>rfl) m s (.i .i64 0)
 rw[show(T.s s)=sK s from rfl,this];unfold NK;cases fO m s <;> rfl
section
variable(l:Cs)(lT:T)(cl:List T)(hl:fD lT l.length cl)(kg:iR l cl)(hlen:l.length≤om)
include hl kg hlen
theorem aot(fr:Fr)(lh:fC fg)(sh:List fg)(jh:sh=xx lT [] [])
  (h3:an fr 3= .ptr .S 2 1 0) (V7:an fr 13=lT) (iM:an fr 14= .i .i64 (l.length:Int)) (I0:an fr 15= .i .i64 0):
  DC pE 41 (.loop ou) ⟨fr,lh,sh⟩=some (.ext 0,⟨gr pE 41 ou fr lh sh,gp pE 41 ou fr lh sh,gn pE 41 ou fr lh sh⟩)∧
  (gn pE 41 ou fr lh sh=xx lT (gG l l.length) []):=by
 refine fq (P:=fun fR fH fL=>fL=xx lT (gG l l.length) [])
  (fw (fun k st=> ∃(fr:Fr) (fG:fC fg),st=⟨fr,fG,xx lT (gG l k) []⟩∧an fr 3= .ptr .S 2 1 0∧an fr 13=lT∧an fr 14= .i .i64 (l.length:Int)∧an fr 15= .i .i64 (k:Int)) _ l.length ?_ ?_ 0 _ (Nat.zero_le _) ⟨fr,lh,by rw[jh];rfl,h3,V7,iM,I0⟩)
 ·rintro k _ hk ⟨fr,fG,rfl,h3,V7,iM,I0⟩
  left
  have fK:(k:Int)<l.length:=by omega
  have hw:=fQ (k:=k) (by omega)
  obtain⟨b,cb,r,fF,iK,oS,hb⟩:=jZ hl kg k hk
  have ja:=lkS (gG l k) l[k].1
  rw[yg l hk]
  cases hq:fO (gG l k) l[k].1 with
  |some i=>
   rw[hq]at ja
   unfold NK at ja
   simp(maxDischargeDepth:=6) only[qA,seval,gW,fU,iP,ou,h3,V7,iM,I0,fK,fF,hw,YK,ch0,gI,ja]
   refine⟨_,rfl,_,_,rfl, ?_, ?_, ?_, ?_⟩ <;> simp(maxDischargeDepth:=6) only[qA,seval,h3,V7,iM]
  |none=>
   rw[hq]at ja
   unfold NK at ja
   have j5:pH (.one .str) (.s l[k].1) (.i .i64 (k:Int)) ((gG l k).map fun p=>sK p.1) ((gG l k).map fun p=>nK p.2)=_:=wQ (kT:=sK) (vT:=nK) Er (gG l k) l[k].1 k hq
   simp(maxDischargeDepth:=6) only[qA,seval,gW,fU,iP,ou,h3,V7,iM,I0,fK,fF,hw,YK,ch0,gI,ja,wN,j5,aor]
   refine⟨_,rfl,_,_,rfl, ?_, ?_, ?_, ?_⟩ <;> simp(maxDischargeDepth:=6) only[qA,seval,h3,V7,iM]
 ·rintro _ ⟨fr,fG,rfl,h3,V7,iM,I0⟩
  simp(maxDischargeDepth:=6) only[qA,seval,ou,iM,I0,Int.lt_irrefl]
  exact⟨_,_,(by simp:Out.ext 0≠ .nrm),rfl,rfl,rfl⟩
theorem aaZ:fj pE 143 [lT] []=some (.ptr .S 2 1 0,xx lT (gG l l.length) []):=by
 have hL:=fun fr lh sh=>aot l lT cl hl kg hlen fr lh sh
 rw[ajA]at hL
 rw[fx WG (by simp[NY])]
 simp(maxDischargeDepth:=6) only[qA,seval,oM,iP,NY,Ln,hl.lenI,hl.cells,hl.noTup,hl.kept1,hL]
end
end Go.Proofs.YtblcbheipjeoeaaGreat
