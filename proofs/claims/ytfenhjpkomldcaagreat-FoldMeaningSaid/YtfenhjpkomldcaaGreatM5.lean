/- Types as the reference finds them. Types as the program finds them: the checker. Types as the program finds them. Types as the program finds them. Conditions: the theorems' own. -/
import Derived.Test.YtfenhjpkomldcaaGreatM4
import Derived.KernelRfl
set_option maxRecDepth 100000
set_option linter.unusedSimpArgs false
set_option linter.unusedVariables false
set_option maxHeartbeats 16000000
namespace Go.Proofs.YtfenhjpkomldcaaGreat
open Go Go.Ev
theorem tabC_len(l:Cs): ∀n,(tabC l n).length=n
 |0=>rfl
 |n+1=>by rw[tabC,List.length_append,tabC_len l n];rfl
theorem tabC_succ(l:Cs){n:Nat}(h:n<l.length):tabC l (n+1)=tabC l n++ [entC (l.take n) (tabC l n) l[n].2]:=by
 rw[tabC];simp[List.getD_eq_getElem?_getD,List.getElem?_eq_getElem h]
def smC(l:Cs):Prop:= ∀c∈l,0≤c.2.nodes∧c.2.sm
theorem ints_app(a:List Int)(x:Int):ints (a++ [x])=ints a++ [.i .i64 x]:=by simp[ints]
section
variable(l:Cs)(lT:T)(cl:List T)(hl:IsSl lT l.length cl)(hcl:IsCl l cl)(hlen:l.length≤Lim)(hsm:smC l)
include hl hcl hlen hsm
end
end Go.Proofs.YtfenhjpkomldcaaGreat
namespace Go.Proofs.YtfenhjpkomldcaaGreat
open Go Go.Ev
theorem splice_app{α:Type}: ∀(A R:List α) (j:Nat) (vs:List α),splice (A++R) (A.length+j) vs=A++splice R j vs
 | [],R,j,vs=>by simp
 |a::A,R,j,vs=>by
  rw[List.cons_append,List.length_cons,show A.length+1+j=(A.length+j)+1 by omega,splice,splice_app A R j vs];rfl
theorem splice_zero{α:Type}: ∀(z R vs:List α),vs.length=z.length→splice (z++R) 0 vs=vs++R
 | [],R,[],_=>by cases R <;> rfl
 |c::z,R,v::vs,h=>by rw[List.cons_append,splice,splice_zero z R vs (by simpa using h)];rfl
theorem splice_row{α:Type}(A z R vs:List α)(k:Nat)(hk:A.length=k)(h:vs.length=z.length):splice (A++(z++R)) k vs=(A++vs)++R:=by
 have:=splice_app A (z++R) 0 vs
 rw[Nat.add_zero,hk]at this
 rw[this,splice_zero z R vs h,List.append_assoc]
theorem repl_succ{α:Type}(z:List α)(n:Nat):repl z (n+1)=z++repl z n:=rfl
theorem repl_len{α:Type}(z:List α): ∀n,(repl z n).length=n*z.length
 |0=>by simp[repl]
 |n+1=>by rw[repl_succ,List.length_append,repl_len z n,Nat.succ_mul,Nat.add_comm]
def mapI(l:Cs):Nat→List (List Nat×Nat)
 |0=> []
 |n+1=>match lookA (mapI l n) (l.getD n ([],.mk 0 0 [] [])).1 with
  |none=>mapI l n++ [((l.getD n ([],.mk 0 0 [] [])).1,n)]
  |some _=>mapI l n
theorem mapI_succ(l:Cs){n:Nat}(h:n<l.length):mapI l (n+1)=match lookA (mapI l n) l[n].1 with
  |none=>mapI l n++ [(l[n].1,n)]
  |some _=>mapI l n:=by
 rw[mapI];simp[List.getD_eq_getElem?_getD,List.getElem?_eq_getElem h]
theorem idxC_snoc(s:List Nat)(c:List Nat×Ex): ∀l:Cs,idxC (l++ [c]) s=match idxC l s with|some i=>some i|none=>if c.1=s then some l.length else none
 | []=>by simp[idxC]
 |d::l=>by
  rw[List.cons_append,idxC,idxC,idxC_snoc s c l]
  by_cases h:d.1=s
  ·simp[h]
  ·rw[if_neg h,if_neg h]
   cases idxC l s with
   |some i=>rfl
   |none=>by_cases h2:c.1=s <;> simp[h2]
theorem mapI_look(l:Cs)(s:List Nat): ∀n,n≤l.length→lookA (mapI l n) s=idxC (l.take n) s
 |0,_=>by simp[mapI,lookA,idxC]
 |n+1,h=>by
  have hn:n<l.length:=by omega
  rw[mapI_succ l hn,List.take_succ_eq_append_getElem hn,idxC_snoc]
  have ih:=mapI_look l s n (by omega)
  have ih2:=mapI_look l l[n].1 n (by omega)
  cases hl:lookA (mapI l n) l[n].1 with
  |none=>
   simp only
   rw[lookA_app,ih]
   cases idxC (l.take n) s with
   |some i=>rfl
   |none=>
    simp only[List.length_take,Nat.min_eq_left (Nat.le_of_lt hn)]
    by_cases e:s=l[n].1
    ·simp[e]
    ·rw[if_neg e,if_neg (fun h=>e h.symm)]
  |some i=>
   simp only
   rw[ih]
   cases hi:idxC (l.take n) s with
   |some j=>rfl
   |none=>
    simp only
    rw[if_neg]
    intro e
    rw[hl,e,hi]at ih2
    cases ih2
def sK(s:List Nat):T:= .s s
def nK(n:Nat):T:= .i .i64 (n:Int)
def iV(n:Int):T:= .i .i64 n
theorem heqS(a b:List Nat):eqT (.one .str) (sK a) (sK b)=some (decide (a=b)):=eqT_s
theorem heqN(a b:Nat):eqT (.one .int) (nK a) (nK b)=some (decide (a=b)):=by
 unfold nK;rw[eqT_i];congr 1;rw[decide_eq_decide];omega
def chS(lT:T)(m:List (List Nat×Nat))(kn:List (Nat×Int)):List Ent:=
 [⟨1,.map (m.map fun p=>sK p.1) (m.map fun p=>nK p.2) false⟩,⟨1,.map (kn.map fun p=>nK p.1) (kn.map fun p=>iV p.2) false⟩,⟨1,.cells [lT,.mp .S 0 1,.mp .S 1 1] 0 true⟩]
section
variable(lT:T)(m:List (List Nat×Nat))(kn:List (Nat×Int))
theorem ch0:getE (chS lT m kn) 0=⟨1,.map (m.map fun p=>sK p.1) (m.map fun p=>nK p.2) false⟩:=nr rfl
theorem ch1:getE (chS lT m kn) 1=⟨1,.map (kn.map fun p=>nK p.1) (kn.map fun p=>iV p.2) false⟩:=nr rfl
theorem ch2:getE (chS lT m kn) 2=⟨1,.cells [lT,.mp .S 0 1,.mp .S 1 1] 0 true⟩:=nr rfl
theorem ch0s(m':List (List Nat×Nat)):setE (chS lT m kn) 0 ⟨1,.map (m'.map fun p=>sK p.1) (m'.map fun p=>nK p.2) false⟩=chS lT m' kn:=nr rfl
theorem ch1s(kn':List (Nat×Int)):setE (chS lT m kn) 1 ⟨1,.map (kn'.map fun p=>nK p.1) (kn'.map fun p=>iV p.2) false⟩=chS lT m kn':=nr rfl
theorem chNew:chS lT [] []= [⟨1,.map [] [] false⟩,⟨1,.map [] [] false⟩,⟨1,.cells [lT,.mp .S 0 1,.mp .S 1 1] 0 true⟩]:=nr rfl
end
def ixT(r:Option Nat):T:=match r with|some v=> .tup [nK v,.b true]|none=> .tup [.i .i64 0,.b false]
theorem lkS(m:List (List Nat×Nat))(s:List Nat):lkIn (.one .str) (m.map fun p=>sK p.1) (m.map fun p=>nK p.2) (.s s) (.i .i64 0) true=some (ixT (lookA m s)):=by
 have:=lk_A (kT:=sK) (vT:=nK) heqS (fun _=>rfl) m s (.i .i64 0)
 rw[show(T.s s)=sK s from rfl,this];unfold ixT;cases lookA m s <;> rfl
section
variable(l:Cs)(lT:T)(cl:List T)(hl:IsSl lT l.length cl)(hcl:IsCl l cl)(hlen:l.length≤Lim)
include hl hcl hlen
theorem nch1(fr:Fr)(lh:Tri Ent)(sh:List Ent)(hsh:sh=chS lT [] [])
  (h3:getF fr 3= .ptr .S 2 1 0) (h13:getF fr 13=lT) (h14:getF fr 14= .i .i64 (l.length:Int)) (h15:getF fr 15= .i .i64 0):
  DC pE 41 (.loop c96_L1) ⟨fr,lh,sh⟩=some (.ext 0,⟨frL pE 41 c96_L1 fr lh sh,lhL pE 41 c96_L1 fr lh sh,shL pE 41 c96_L1 fr lh sh⟩)∧
  (shL pE 41 c96_L1 fr lh sh=chS lT (mapI l l.length) []):=by
 refine loop_rule (P:=fun fr' lh' sh'=>sh'=chS lT (mapI l l.length) [])
  (loop_inv (fun k st=> ∃(fr:Fr) (lh1:Tri Ent),st=⟨fr,lh1,chS lT (mapI l k) []⟩∧getF fr 3= .ptr .S 2 1 0∧getF fr 13=lT∧getF fr 14= .i .i64 (l.length:Int)∧getF fr 15= .i .i64 (k:Int)) _ l.length ?_ ?_ 0 _ (Nat.zero_le _) ⟨fr,lh,by rw[hsh];rfl,h3,h13,h14,h15⟩)
 ·rintro k _ hk ⟨fr,lh1,rfl,h3,h13,h14,h15⟩
  left
  have hk':(k:Int)<l.length:=by omega
  have hw:=wr_succL (k:=k) (by omega)
  obtain⟨b,cb,r,hia,hb1,hb2,hb⟩:=const_at hl hcl k hk
  have hlk:=lkS (mapI l k) l[k].1
  rw[mapI_succ l hk]
  cases hq:lookA (mapI l k) l[k].1 with
  |some i=>
   rw[hq]at hlk
   unfold ixT at hlk
   simp(maxDischargeDepth:=6) only[qGO0,qGO1,qGO2,qGO3,qGO4,qGO5,lkV,splice,backD,calmOp,Nat.reduceAdd,Nat.reduceLT,Nat.reduceLeDiff,Nat.reduceEqDiff,qDR0,getL,qKP0,c96_L1,h3,h13,h14,h15,hk',hia,hw,ch2,ch0,lkE_map,hlk]
   refine⟨_,rfl,_,_,rfl, ?_, ?_, ?_, ?_⟩ <;> simp(maxDischargeDepth:=6) only[qGO2,qGO4,Nat.reduceEqDiff,h3,h13,h14]
  |none=>
   rw[hq]at hlk
   unfold ixT at hlk
   have hput:putK (.one .str) (.s l[k].1) (.i .i64 (k:Int)) ((mapI l k).map fun p=>sK p.1) ((mapI l k).map fun p=>nK p.2)=_:=put_A (kT:=sK) (vT:=nK) heqS (mapI l k) l[k].1 k hq
   simp(maxDischargeDepth:=6) only[qGO0,qGO1,qGO2,qGO3,qGO4,qGO5,lkV,splice,backD,calmOp,Nat.reduceAdd,Nat.reduceLT,Nat.reduceLeDiff,Nat.reduceEqDiff,qDR0,getL,qKP0,c96_L1,h3,h13,h14,h15,hk',hia,hw,ch2,ch0,lkE_map,hlk,key_s,hput,ch0s]
   refine⟨_,rfl,_,_,rfl, ?_, ?_, ?_, ?_⟩ <;> simp(maxDischargeDepth:=6) only[qGO2,qGO4,Nat.reduceEqDiff,h3,h13,h14]
 ·rintro _ ⟨fr,lh1,rfl,h3,h13,h14,h15⟩
  simp(maxDischargeDepth:=6) only[qGO0,qGO1,qGO2,qGO4,qGO5,Nat.reduceLT,c96_L1,h14,h15,Int.lt_irrefl]
  exact⟨_,_,(by simp:Out.ext 0≠ .nrm),rfl,rfl,rfl⟩
theorem nch_ev:DCall pE 96 [lT] []=some (.ptr .S 2 1 0,chS lT (mapI l l.length) []):=by
 have hL:=fun fr lh sh=>nch1 l lT cl hl hcl hlen fr lh sh
 rw[chNew]at hL
 rw[p_fun fn96 (by simp[c96])]
 simp(maxDischargeDepth:=6) only[qF,qGO0,qGO1,qGO2,qGO3,qGO4,qGO5,Nat.reduceShiftRight,Nat.reduceMod,buildV,splice,fills,Nat.reduceAdd,reduceCtorEq,Nat.reduceLT,Nat.reduceLeDiff,Nat.reduceEqDiff,qSH0,qKP0,c96,c96_L1_w,hl.lenI,hl.cells,hl.noTup,hl.kept1,hL]
end
end Go.Proofs.YtfenhjpkomldcaaGreat
namespace Go.Proofs.YtfenhjpkomldcaaGreat
open Go Go.Ev
theorem tabC_pre(l:Cs)(n:Nat): ∀k,∃r,tabC l (n+k)=tabC l n++r
 |0=>⟨[],by simp⟩
 |k+1=>by
  obtain⟨r,h⟩:=tabC_pre l n k
  rw[←Nat.add_assoc,tabC,h]
  exact⟨_,List.append_assoc _ _ _⟩
theorem tabC_get(l:Cs){n i:Nat}(hn:n≤l.length)(hi:i<n):(tabC l n).getD i (0,6)=(tabC l l.length).getD i (0,6):=by
 obtain⟨r,h⟩:=tabC_pre l n (l.length-n)
 rw[show n+(l.length-n)=l.length by omega]at h
 rw[h,List.getD_eq_getElem?_getD,List.getD_eq_getElem?_getD,List.getElem?_append_left (by rw[tabC_len];exact hi)]
def entN(l:Cs)(i:Nat):Int×Int:=(tabC l l.length).getD i (0,6)
theorem entN_eq(l:Cs){i:Nat}(hi:i<l.length):entN l i=entC (l.take i) (tabC l i) l[i].2:=by
 unfold entN
 rw[←tabC_get l (n:=i+1) (by omega) (by omega),tabC_succ l hi,List.getD_eq_getElem?_getD,List.getElem?_append_right (by rw[tabC_len];omega),tabC_len,Nat.sub_self]
 rfl
theorem ty_err{cl:List Nat→Int×Int}(hcl: ∀s,(cl s).2≠0→(cl s).1=0)(scope:Int)(x:Ex)(h:(x.ty cl scope).2≠0):(x.ty cl scope).1=0:=by
 rw[Ex.ty_eq]at h ⊢
 by_cases h6:x.op=6
 ·rw[if_pos h6]at h ⊢
  by_cases hz:attrK scope x.name≠0
  ·rw[if_pos hz]at h;exact absurd rfl h
  ·rw[if_neg hz]at h ⊢; exact hcl _ h
 ·rw[if_neg h6]at h ⊢
  cases hr:tyL cl scope x.args with
  |error e=>rfl
  |ok ts=>
   rw[hr]at h
   simp only at h ⊢
   split at h
   ·rename_i h0;rw[if_pos h0]
   ·exact absurd rfl h
theorem clk_err(l:Cs)(tab:List (Int×Int))(h: ∀t∈tab,t.2≠0→t.1=0)(s:List Nat):(clk l tab s).2≠0→(clk l tab s).1=0:=by
 unfold clk
 cases idxC l s with
 |none=>intro _;rfl
 |some i=>
  simp only
  rw[List.getD_eq_getElem?_getD]
  cases hi:tab[i]? with
  |none=>intro _;rfl
  |some t=>exact h t (List.mem_of_getElem? hi)
theorem tabC_err(l:Cs): ∀n,∀t∈tabC l n,t.2≠0→t.1=0
 |0=>by simp[tabC]
 |n+1=>by
  intro t ht
  rw[tabC]at ht
  rcases List.mem_append.1 ht with ht|ht
  ·exact tabC_err l n t ht
  ·rw[List.mem_singleton]at ht
   subst ht
   unfold entC
   split
   ·intro _;rfl
   ·exact ty_err (clk_err _ _ (tabC_err l n)) _ _
section
variable(l:Cs)(lT:T)(cl:List T)(hl:IsSl lT l.length cl)(hcl:IsCl l cl)(hlen:l.length≤Lim)(hsm:smC l)
def KnOk(kn:List (Nat×Int)):Prop:= ∀i t,lookA kn i=some t→i<l.length∧entN l i=(t,0)
def cstP(j:Nat):Prop:= ∀kn,KnOk l kn→ ∃kn',DCall pE 114 [.ptr .S 2 1 0,.i .i64 (j:Int)] (chS lT (mapI l l.length) kn)=some (.tup [.i .i64 (entN l j).1,.i .i64 (entN l j).2],chS lT (mapI l l.length) kn')∧KnOk l kn'∧ ∀i,j<i→lookA kn' i=lookA kn i
def cl'(n:Nat):List Nat→Int×Int:=clk (l.take n) (tabC l n)
def ndeP(n:Nat)(scope:Int)(y:Ex):Prop:= ∀kn,KnOk l kn→ ∀cs:List T,IsEx y cs→y.nodes≤100000→y.wf=true→ ∃kn',DCall pE 142 [.ptr .S 2 1 0,.i .i64 scope,.i .i64 (n:Int),.agg cs] (chS lT (mapI l l.length) kn)=some (.tup [.i .i64 (y.ty (cl' l n) scope).1,.i .i64 (y.ty (cl' l n) scope).2],chS lT (mapI l l.length) kn')∧KnOk l kn'∧ ∀i,n≤i→lookA kn' i=lookA kn i
include hl
theorem nde1(n:Nat)(scope:Int)(xs:List Ex)(ih: ∀y∈xs,ndeP l lT n scope y)(a:T)(cc:List T)(ha:IsSl a xs.length cc)(hx:IsExs xs cc)(hn:nodesL xs≤100000)(hwf:wfL xs=true)(kn:List (Nat×Int))(hkn:KnOk l kn)(r:Except Int (List Int))(hr:r=tyL (cl' l n) scope xs)(o:Out)(ho:o=outE r)(g:Nat)(c7:Ent)(fr:Fr)(lh:Tri Ent)(sh:List Ent)(hsh:sh=chS lT (mapI l l.length) kn)
  (h0:getF fr 0= .ptr .S 2 1 0) (h1:getF fr 1= .i .i64 scope) (h2:getF fr 2= .i .i64 (n:Int)) (h14:getF fr 14= .isl .L 57 g 0 xs.length 1) (h59:getF fr 59=a) (h60:getF fr 60= .i .i64 (xs.length:Int)) (h61:getF fr 61= .i .i64 0) (o57:getO lh 57=⟨g,.cells (repl [.i .i64 0] xs.length) 0 false⟩) (o7:getO lh 7=c7):
  DC pE 89 (.loop c142_L1) ⟨fr,lh,sh⟩=some (o,⟨frL pE 89 c142_L1 fr lh sh,lhL pE 89 c142_L1 fr lh sh,shL pE 89 c142_L1 fr lh sh⟩)∧
  ((∀e,r= .error e→getF (frL pE 89 c142_L1 fr lh sh) 8= .i .i64 0∧getF (frL pE 89 c142_L1 fr lh sh) 9= .i .i64 e)∧(∀ts,r= .ok ts→getO (lhL pE 89 c142_L1 fr lh sh) 57=⟨g,.cells (ints ts) 0 false⟩)∧
    getO (lhL pE 89 c142_L1 fr lh sh) 7=c7∧ ∃kn',shL pE 89 c142_L1 fr lh sh=chS lT (mapI l l.length) kn'∧KnOk l kn'∧ ∀i,n≤i→lookA kn' i=lookA kn i):=by
 have _:=hl
 refine loop_rule (P:=fun fr' lh' sh'=>(∀e,r= .error e→getF fr' 8= .i .i64 0∧getF fr' 9= .i .i64 e)∧(∀ts,r= .ok ts→getO lh' 57=⟨g,.cells (ints ts) 0 false⟩)∧getO lh' 7=c7∧ ∃kn',sh'=chS lT (mapI l l.length) kn'∧KnOk l kn'∧ ∀i,n≤i→lookA kn' i=lookA kn i)
  (loop_inv (fun k st=> ∃(fr:Fr) (lh1:Tri Ent) (ts:List Int) (kn1:List (Nat×Int)),st=⟨fr,lh1,chS lT (mapI l l.length) kn1⟩∧getF fr 0= .ptr .S 2 1 0∧getF fr 1= .i .i64 scope∧getF fr 2= .i .i64 (n:Int)∧getF fr 14= .isl .L 57 g 0 xs.length 1∧getF fr 59=a∧getF fr 60= .i .i64 (xs.length:Int)∧getF fr 61= .i .i64 (k:Int)∧getO lh1 7=c7∧
    getO lh1 57=⟨g,.cells (ints ts++repl [.i .i64 0] (xs.length-k)) 0 false⟩∧ts.length=k∧r=preT ts (tyL (cl' l n) scope (xs.drop k))∧KnOk l kn1∧ ∀i,n≤i→lookA kn1 i=lookA kn i) _ xs.length ?_ ?_ 0 _ (Nat.zero_le _) ⟨fr,lh,[],kn,by rw[hsh],h0,h1,h2,h14,h59,h60,h61,o7,by rw[o57];rfl,rfl,by rw[hr,List.drop_zero];cases tyL (cl' l n) scope xs <;> rfl,hkn,fun _ _=>rfl⟩)
 ·rintro k _ hkx ⟨fr,lh1,ts,kn1,rfl,h0,h1,h2,h14,h59,h60,h61,o7,o57,hts,hty,hkn1,hfr1⟩
  have hk':(k:Int)<xs.length:=by omega
  have hlen':=nodesL_len xs
  have hyk:=nodesL_mem (List.getElem_mem hkx)
  have hw:=wr_succL (k:=k) (lim_of (by omega))
  obtain⟨b,cb,rr,hia,hb1,hb2,hb⟩:=arg_at ha hx k hkx
  obtain⟨kn2,hcall,hkn2,hfr2⟩:=ih xs[k] (List.getElem_mem hkx) kn1 hkn1 _ hb (by omega) (wfL_mem.1 hwf _ (List.getElem_mem hkx))
  rw[tyL_drop hkx]at hty
  by_cases hf:(xs[k].ty (cl' l n) scope).2=0
  ·left
   rw[if_neg (by simp[hf]),preT_preT]at hty
   generalize xs[k].ty (cl' l n) scope=q at hcall hf hty
   obtain⟨q1,q2⟩:=q
   simp only at hcall hf hty
   subst hf
   have hrl:(ints ts++repl [T.i .i64 0] (xs.length-k)).length=xs.length:=by rw[List.length_append,ints_len,repl_len,hts];simp;omega
   have hsp:splice (ints ts++repl [T.i .i64 0] (xs.length-k)) k [.i .i64 q1]=ints (ts++ [q1])++repl [T.i .i64 0] (xs.length-(k+1)):=by
    rw[show xs.length-k=(xs.length-(k+1))+1 by omega,repl_succ,splice_row (ints ts) [T.i .i64 0] _ [T.i .i64 q1] k (by rw[ints_len];exact hts) rfl,ints_app]
   have hkl1:k+1≤xs.length:=by omega
   simp(maxDischargeDepth:=6) only[qF,qGO0,qGO1,qGO2,qGO3,qGO4,qGO5,splice,Nat.reduceAdd,reduceCtorEq,Nat.reduceLT,Nat.reduceLeDiff,Nat.reduceEqDiff,qKP0,c142_L1,h0,h1,h2,h14,h59,h60,h61,o57,hk',hia,hw,hcall,dc142,hb1.kept1,hkx,hrl,hsp,hkl1]
   refine⟨_,rfl,_,_,ts++ [q1],kn2,rfl, ?_, ?_, ?_, ?_, ?_, ?_, ?_, ?_, ?_,by simp[hts],hty,hkn2,fun i hi=>by rw[hfr2 i hi,hfr1 i hi]⟩
   all_goals first|(simp(maxDischargeDepth:=6) only[qGO2,qGO4,reduceCtorEq,Nat.reduceEqDiff,h0,h1,h2,h14,h59,h60,o7];done)|skip
  ·right
   rw[if_pos (by simp[hf])]at hty
   generalize xs[k].ty (cl' l n) scope=q at hcall hf hty
   obtain⟨q1,q2⟩:=q
   simp only at hcall hf hty
   simp(maxDischargeDepth:=6) only[qF,qGO0,qGO1,qGO2,qGO3,qGO4,qGO5,splice,Nat.reduceAdd,reduceCtorEq,Nat.reduceLT,Nat.reduceLeDiff,Nat.reduceEqDiff,qKP0,c142_L1,h0,h1,h2,h59,h60,h61,hk',hia,hcall,dc142,hb1.kept1,hf]
   refine⟨_,_,(by simp:Out.ret≠ .nrm),rfl,by rw[ho,hty];rfl,fun e he=> ?_,fun t ht=>(by rw[hty]at ht;cases ht),by simp(maxDischargeDepth:=6) only[qGO2,qGO4,Nat.reduceEqDiff,o7],kn2,rfl,hkn2,fun i hi=>by rw[hfr2 i hi,hfr1 i hi]⟩
   rw[hty]at he
   cases he
   exact⟨by simp(maxDischargeDepth:=6) only[qGO2,qGO4,Nat.reduceEqDiff],by simp(maxDischargeDepth:=6) only[qGO2]⟩
 ·rintro _ ⟨fr,lh1,ts,kn1,rfl,h0,h1,h2,h14,h59,h60,h61,o7,o57,hts,hty,hkn1,hfr1⟩
  rw[List.drop_length,tyL,preT,List.append_nil]at hty
  rw[Nat.sub_self,show repl [T.i .i64 0] 0= []from rfl,List.append_nil]at o57
  simp(maxDischargeDepth:=6) only[qGO0,qGO1,qGO2,qGO4,qGO5,Nat.reduceLT,c142_L1,h60,h61,Int.lt_irrefl]
  refine⟨_,_,(by simp:Out.ext 0≠ .nrm),rfl,by rw[ho,hty];rfl,fun e he=>(by rw[hty]at he;cases he),fun t ht=> ?_,o7,kn1,rfl,hkn1,hfr1⟩
  rw[hty]at ht
  cases ht
  exact o57
include hcl hlen
theorem nde_ev(n:Nat)(hnl:n≤l.length)(hc: ∀j,j<n→cstP l lT j)(scope:Int)(x:Ex):ndeP l lT n scope x:=by
 have _:=hlen
 have _:=hcl
 induction x using Ex.ind with
 |h x ih=>
  intro kn hkn cs hx hn hwf
  obtain⟨a,cc,rfl,ha,hxs⟩:=hx.cells
  rw[p_fun fn142 (by simp[c142]),Ex.ty_eq]
  have hnd:=x.nodes_eq
  rw[Ex.wf_eq,Bool.and_eq_true]at hwf
  obtain⟨hno,hwl⟩:=hwf
  have hat:=pattr_ev scope x.name
  have hll:=nodesL_len x.args
  have hlim:x.args.length≤Lim:=lim_of (by omega)
  simp only[nodeOk,Bool.and_eq_true,decide_eq_true_eq]at hno
  obtain⟨hop1,hop2,har,_,_⟩:=hno
  by_cases h6:x.op=6
  ·rw[if_pos h6]
   unfold attrE at hat
   by_cases hz:attrK scope x.name=0
   ·rw[if_neg (by simp[hz])]
    rw[if_pos hz,hz]at hat
    have hlk:=lkS (mapI l l.length) x.name
    rw[mapI_look l x.name l.length (Nat.le_refl _),List.take_length]at hlk
    have hck:cl' l n x.name=match idxC l x.name with|some i=>if i<n then entN l i else(0,6)|none=>(0,6):=by
     unfold cl' clk
     rw[idxC_take]
     cases hi:idxC l x.name with
     |none=>rfl
     |some i=>
      simp only
      by_cases hin:i<n
      ·rw[if_pos hin,if_pos hin];exact tabC_get l hnl hin
      ·rw[if_neg hin,if_neg hin]
    rw[hck]
    cases hi:idxC l x.name with
    |none=>
     rw[hi]at hlk
     unfold ixT at hlk
     simp(maxDischargeDepth:=6) only[qF,qGO0,qGO1,qGO2,qGO3,qGO4,qGO5,lkV,backD,calmOp,Nat.reduceAdd,reduceCtorEq,Nat.reduceLT,Nat.reduceEqDiff,Int.reduceEq,c142,h6,hat,dc89,ch2,ch0,lkE_map,hlk]
     exact⟨kn,rfl,hkn,fun _ _=>rfl⟩
    |some i=>
     rw[hi]at hlk
     rw[show ixT (some i)= .tup [.i .i64 (i:Int),.b true]from rfl]at hlk
     by_cases hin:i<n
     ·obtain⟨kn',hcall,hkn',hfr'⟩:=hc i hin kn hkn
      have hin':(i:Int)<n:=by omega
      simp only[hin,if_true]
      simp(maxDischargeDepth:=6) only[qF,qGO0,qGO1,qGO2,qGO3,qGO4,qGO5,lkV,backD,calmOp,Nat.reduceAdd,reduceCtorEq,Nat.reduceLT,Nat.reduceEqDiff,Int.reduceEq,qKP0,c142,h6,hat,dc89,ch2,ch0,lkE_map,hlk,hin',hcall,dc114]
      exact⟨kn',rfl,hkn',fun j hj=>hfr' j (by omega)⟩
     ·have hin': ¬(i:Int)<n:=by omega
      simp only[hin,if_false]
      simp(maxDischargeDepth:=6) only[qF,qGO0,qGO1,qGO2,qGO3,qGO4,qGO5,lkV,backD,calmOp,Nat.reduceAdd,reduceCtorEq,Nat.reduceLT,Nat.reduceEqDiff,Int.reduceEq,c142,h6,hat,dc89,ch2,ch0,lkE_map,hlk,hin']
      exact⟨kn,rfl,hkn,fun _ _=>rfl⟩
   ·rw[if_pos hz]
    rw[if_neg hz]at hat
    simp(maxDischargeDepth:=6) only[qF,qGO0,qGO1,qGO2,qGO3,qGO4,qGO5,Nat.reduceAdd,reduceCtorEq,Nat.reduceLT,Nat.reduceEqDiff,c142,h6,hat,dc89]
    exact⟨kn,rfl,hkn,fun _ _=>rfl⟩
  ·rw[if_neg h6]
   have hL:=fun c7 fr lh sh hsh h0 h1 h2 h14 h59 h60 h61 o57 o7=>nde1 l lT cl hl n scope x.args (fun y hy=>ih y hy) a cc ha hxs (by omega) hwl kn hkn _ rfl _ rfl 1 c7 fr lh sh hsh h0 h1 h2 h14 h59 h60 h61 o57 o7
   have hmk:x.args.length*8≤roomy∧x.args.length≤roomy:=by unfold Lim at hlim;unfold roomy;omega
   have hS:=fun c7 fr lh sh hsh h0 h1 h2 h14 h59 h60 h61 o57 o7=>(hL c7 fr lh sh hsh h0 h1 h2 h14 h59 h60 h61 o57 o7).2.2.2.2
   cases hr:tyL (cl' l n) scope x.args with
   |error e=>
    have hL':=fun c7 fr lh sh hsh h0 h1 h2 h14 h59 h60 h61 o57 o7=>And.intro (hL c7 fr lh sh hsh h0 h1 h2 h14 h59 h60 h61 o57 o7).1 ((hL c7 fr lh sh hsh h0 h1 h2 h14 h59 h60 h61 o57 o7).2.1 e hr)
    simp only[hr,outE]at hL'
    simp(maxDischargeDepth:=6) only[qF,qGO0,qGO1,qGO2,qGO3,qGO4,qGO5,mkslV,mkOk,Nat.reduceAdd,reduceCtorEq,Nat.reduceLT,Nat.reduceEqDiff,c142,h6,ha.lenI,hmk,hL']
    generalize hX:shL _ _ _ _ _ _=X
    obtain⟨kn',e1,e2,e3⟩: ∃kn',X=chS lT (mapI l l.length) kn'∧KnOk l kn'∧ ∀i,n≤i→lookA kn' i=lookA kn i:=by
     rw[←hX]
     refine hS _ _ _ _ rfl ?_ ?_ ?_ ?_ ?_ ?_ ?_ ?_ rfl <;> simp(maxDischargeDepth:=6) only[qGO2,qGO4,reduceCtorEq,Nat.reduceEqDiff]
    rw[e1];exact⟨kn',rfl,e2,e3⟩
   |ok ts=>
    have hlen2:=tyL_len hr
    have hL':=fun c7 fr lh sh hsh h0 h1 h2 h14 h59 h60 h61 o57 o7=>And.intro (hL c7 fr lh sh hsh h0 h1 h2 h14 h59 h60 h61 o57 o7).1 (hL c7 fr lh sh hsh h0 h1 h2 h14 h59 h60 h61 o57 o7).2.2.2.1
    have hF:=fun c7 fr lh sh hsh h0 h1 h2 h14 h59 h60 h61 o57 o7=>(hL c7 fr lh sh hsh h0 h1 h2 h14 h59 h60 h61 o57 o7).2.2.1 ts hr
    have hil:(ints ts).length=x.args.length:=by rw[ints_len,hlen2]
    have hit:List.take x.args.length (ints ts)=ints ts:=List.take_of_length_le (by omega)
    simp only[hr,outE]at hL'
    have hres:=presult_ev x.op ts (.sl (ints ts) x.args.length false) (Or.inr ⟨false,by rw[hlen2]⟩) (by rw[hlen2];exact hlim) hop1 hop2 h6 (by rw[hlen2];exact har)
    by_cases hz:resK x.op ts=0
    ·rw[hz]at hres
     simp(maxDischargeDepth:=6) only[qF,qGO0,qGO1,qGO2,qGO3,qGO4,qGO5,Nat.reduceShiftRight,Nat.reduceMod,mkslV,mkOk,Nat.reduceAdd,reduceCtorEq,Nat.reduceLT,Nat.reduceEqDiff,c142,c142_L1_w,h6,ha.lenI,hmk,hL' ⟨1,.cells [.i .i64 x.op,.i .i64 x.num,.s x.name,a] 0 true⟩,hF ⟨1,.cells [.i .i64 x.op,.i .i64 x.num,.s x.name,a] 0 true⟩,hres,dp215,hz,hil,hit]
     generalize hX:shL _ _ _ _ _ _=X
     obtain⟨kn',e1,e2,e3⟩: ∃kn',X=chS lT (mapI l l.length) kn'∧KnOk l kn'∧ ∀i,n≤i→lookA kn' i=lookA kn i:=by
      rw[←hX]
      refine hS _ _ _ _ rfl ?_ ?_ ?_ ?_ ?_ ?_ ?_ ?_ rfl <;> simp(maxDischargeDepth:=6) only[qGO2,qGO4,reduceCtorEq,Nat.reduceEqDiff]
     rw[e1];exact⟨kn',rfl,e2,e3⟩
    ·simp(maxDischargeDepth:=6) only[qF,qGO0,qGO1,qGO2,qGO3,qGO4,qGO5,Nat.reduceShiftRight,Nat.reduceMod,mkslV,mkOk,Nat.reduceAdd,reduceCtorEq,Nat.reduceLT,Nat.reduceEqDiff,c142,c142_L1_w,h6,ha.lenI,hmk,hL' ⟨1,.cells [.i .i64 x.op,.i .i64 x.num,.s x.name,a] 0 true⟩,hF ⟨1,.cells [.i .i64 x.op,.i .i64 x.num,.s x.name,a] 0 true⟩,hres,dp215,hz,hil,hit]
     generalize hX:shL _ _ _ _ _ _=X
     obtain⟨kn',e1,e2,e3⟩: ∃kn',X=chS lT (mapI l l.length) kn'∧KnOk l kn'∧ ∀i,n≤i→lookA kn' i=lookA kn i:=by
      rw[←hX]
      refine hS _ _ _ _ rfl ?_ ?_ ?_ ?_ ?_ ?_ ?_ ?_ rfl <;> simp(maxDischargeDepth:=6) only[qGO2,qGO4,reduceCtorEq,Nat.reduceEqDiff]
     rw[e1];exact⟨kn',rfl,e2,e3⟩
end
end Go.Proofs.YtfenhjpkomldcaaGreat
namespace Go.Proofs.YtfenhjpkomldcaaGreat
open Go Go.Ev
theorem valid_wf{x:Ex}(hv:validE x=0):x.wf=true:=by
 unfold validE at hv
 by_cases hbig:big x
 ·rw[if_pos hbig]at hv;cases hv
 ·rw[if_neg hbig]at hv
  cases hx:x.wf with
  |true=>rfl
  |false=>rw[hx]at hv;cases hv
section
variable(l:Cs)(lT:T)(cl:List T)(hl:IsSl lT l.length cl)(hcl:IsCl l cl)(hlen:l.length≤Lim)(hsm:smC l)
include hl hcl hlen
def typN(n:Nat)(scope:Int)(x:Ex):Int×Int:=if validE x≠0 then(0,validE x)else x.ty (cl' l n) scope
theorem tof_ev(n:Nat)(hnl:n≤l.length)(hc: ∀j,j<n→cstP l lT j)(scope:Int)(x:Ex)(cs:List T)(hx:IsEx x cs)(hn:0≤x.nodes)(hs:x.sm)(kn:List (Nat×Int))(hkn:KnOk l kn):
  ∃kn',DCall pE 97 [.ptr .S 2 1 0,.i .i64 scope,.i .i64 (n:Int),.agg cs] (chS lT (mapI l l.length) kn)=some (.tup [.i .i64 (typN l n scope x).1,.i .i64 (typN l n scope x).2],chS lT (mapI l l.length) kn')∧KnOk l kn'∧ ∀i,n≤i→lookA kn' i=lookA kn i:=by
 have hval:=fun z fr lh sh=>pvalid_do (z:=z) (fr:=fr) (lh:=lh) (sh:=sh) x cs hx hn hs
 have hnode:=fun h=>nde_ev l lT cl hl hcl hlen n hnl hc scope x kn hkn cs hx h
 obtain⟨a,cc,rfl,ha,hxs⟩:=hx.cells
 rw[p_fun fn97 (by simp[c97])]
 unfold typN
 by_cases hv:validE x=0
 ·rw[if_neg (by simp[hv])]
  obtain⟨kn',hcall,h2,h3⟩:=hnode (by have:=valid_sz hv;omega) (valid_wf hv)
  rw[hv]at hval
  simp(maxDischargeDepth:=6) only[qF,qGO0,qGO1,qGO2,qGO3,qGO4,qGO5,Nat.reduceAdd,reduceCtorEq,Nat.reduceLT,Nat.reduceEqDiff,qKP0,c97,hval,hcall,dc142,ha.kept1]
  exact⟨kn',rfl,h2,h3⟩
 ·rw[if_pos hv]
  generalize validE x=e at hval hv ⊢
  simp(maxDischargeDepth:=6) only[qF,qGO0,qGO1,qGO2,qGO3,qGO4,qGO5,Nat.reduceAdd,reduceCtorEq,Nat.reduceLT,Nat.reduceEqDiff,c97,hval,hv]
  exact⟨kn,rfl,hkn,fun _ _=>rfl⟩
include hsm
theorem cst_ev: ∀j,j<l.length→cstP l lT j:=by
 intro j
 induction j using Nat.strongRecOn with
 |ind j ih=>
  intro hj kn hkn
  obtain⟨b,cb,r,hia,hb1,hb2,hb⟩:=const_at hl hcl j hj
  obtain⟨hsn,hss⟩:=hsm l[j] (List.getElem_mem hj)
  obtain⟨kn',hcall,hkn',hfr'⟩:=tof_ev l lT cl hl hcl hlen j (by omega) (fun i hi=>ih i hi (by omega)) 0 l[j].2 _ hb hsn hss kn hkn
  have hent:entN l j=typN l j 0 l[j].2:=by rw[entN_eq l hj];rfl
  rw[←hent]at hcall
  have herr:(entN l j).2≠0→(entN l j).1=0:=by
   unfold entN
   rw[List.getD_eq_getElem?_getD,List.getElem?_eq_getElem (by rw[tabC_len];exact hj)]
   exact tabC_err l _ _ (List.getElem_mem _)
  have hlk:lkIn (.one .int) (kn.map fun p=>nK p.1) (kn.map fun p=>iV p.2) (.i .i64 (j:Int)) (.i .i64 0) true=_:=lk_A (kT:=nK) (vT:=iV) heqN (fun _=>rfl) kn j (.i .i64 0)
  rw[p_fun fn114 (by simp[c114])]
  cases hq:lookA kn j with
  |some t=>
   obtain⟨_,ht⟩:=hkn j t hq
   rw[hq]at hlk
   simp only[show iV t= .i .i64 t from rfl]at hlk
   rw[ht]
   simp(maxDischargeDepth:=6) only[qF,qGO0,qGO1,qGO2,qGO3,qGO4,lkV,reduceCtorEq,Nat.reduceLT,Nat.reduceEqDiff,c114,ch2,ch1,lkE_map,hlk]
   exact⟨kn,rfl,hkn,fun _ _=>rfl⟩
  |none=>
   rw[hq]at hlk
   generalize he:entN l j=q at hcall herr ⊢
   obtain⟨q1,q2⟩:=q
   simp only at hcall herr ⊢
   by_cases h0:q2=0
   ·subst h0
    have hno:lookA kn' j=none:=by rw[hfr' j (Nat.le_refl _),hq]
    have hput:putK (.one .int) (.i .i64 (j:Int)) (.i .i64 q1) (kn'.map fun p=>nK p.1) (kn'.map fun p=>iV p.2)=_:=put_A (kT:=nK) (vT:=iV) heqN kn' j q1 hno
    simp(maxDischargeDepth:=6) only[qF,qGO0,qGO1,qGO2,qGO3,qGO4,qGO5,lkV,reduceCtorEq,Nat.reduceLT,Nat.reduceLeDiff,Nat.reduceEqDiff,qKP0,c114,ch2,ch1,lkE_map,hlk,hia,hb1.kept1,hcall,dc97,key_i,hput,ch1s]
    refine⟨_,rfl, ?_, ?_⟩
    ·intro i t hi
     rw[lookA_app]at hi
     cases hi2:lookA kn' i with
     |some u=>rw[hi2]at hi;cases hi;exact hkn' i _ hi2
     |none=>
      rw[hi2]at hi
      simp only at hi
      split at hi
      ·rename_i e;subst e;cases hi;exact⟨hj,he⟩
      ·cases hi
    ·intro i hi
     rw[lookA_app,hfr' i (by omega)]
     cases lookA kn i with
     |some u=>rfl
     |none=>simp only;rw[if_neg (by omega)]
   ·rw[herr h0]
    rw[herr h0]at hcall
    simp(maxDischargeDepth:=6) only[qF,qGO0,qGO1,qGO2,qGO3,qGO4,qGO5,lkV,reduceCtorEq,Nat.reduceLT,Nat.reduceLeDiff,Nat.reduceEqDiff,qKP0,c114,ch2,ch1,lkE_map,hlk,hia,hb1.kept1,hcall,dc97,h0]
    exact⟨kn',rfl,hkn',fun i hi=>hfr' i (by omega)⟩
theorem ptype_ev(scope:Int)(x:Ex)(cs:List T)(hx:IsEx x cs)(hn:0≤x.nodes)(hs:x.sm): ∃s,DCall pE 52 [lT,.i .i64 scope,.agg cs] []=some (.tup [.i .i64 (typeS l scope x).1,.i .i64 (typeS l scope x).2],s):=by
 obtain⟨kn',hcall,_,_⟩:=tof_ev l lT cl hl hcl hlen l.length (Nat.le_refl _) (fun j hj=>cst_ev l lT cl hl hcl hlen hsm j hj) scope x cs hx hn hs [] (fun i t h=>by simp[lookA]at h)
 have hnew:=nch_ev l lT cl hl hcl hlen
 have he:typN l l.length scope x=typeS l scope x:=by unfold typN typeS cl';rw[List.take_length]
 rw[he]at hcall
 obtain⟨a,cc,rfl,ha,hxs⟩:=hx.cells
 rw[p_fun fn52 (by simp[c52])]
 simp(maxDischargeDepth:=6) only[qF,qGO0,qGO1,qGO2,qGO3,qGO4,qGO5,Nat.reduceAdd,reduceCtorEq,Nat.reduceLT,Nat.reduceEqDiff,qDR0,getL,qKP0,c52,hnew,dc96,dd96,hl.kept,hl.lenI,ha.kept1,hcall,dc97,dd97]
 exact⟨_,rfl⟩
end
end Go.Proofs.YtfenhjpkomldcaaGreat
