/- A tree evaluator over the model, proved against it (part B): where it answers, the call returns that answer. Conditions: none beyond its theorems' own. -/
import Derived.Test.YtjniffjppoklpaaGreatEvA
import Derived.Laws.Cells
import Derived.Laws.CopyRow
import Derived.Laws.AppendOwn
import Derived.Laws.Entries
import Derived.Laws.StructEq
import Derived.Laws.Cover3
import Derived.ChangeKeysEq
set_option linter.unusedSimpArgs false
set_option linter.unusedVariables false
namespace Go.Ev
open Go
theorem yk{w:World}{M:iP}{v:Value}{t:T}(h:xu v=some t):PRel w M t v∧single t=true:=by
 unfold xu at h
 grind [PRel,single,PList]
theorem wH{w:World}{M:iP}: ∀{r:List Value} {ts:List T},pX r=some ts→PList w M ts r∧ts.all single=true
 | [],ts,h=>by grind [pX,PList]
 |v::r,ts,h=>by
  simp only[pX]at h
  split at h
  ·rename_i t ER D E
   simp at h;subst h
   have a:=yk (w:=w) (M:=M) D
   have b:=wH (w:=w) (M:=M) E
   simp only[PList,List.all_cons,Bool.and_eq_true]
   grind
  ·simp at h
theorem rO{w:World}{M:iP}{v:Value}{t:T}(h:EL v=some t):PRel w M t v:=by
 unfold EL at h
 grind [Option.map_eq_some_iff,PRel,wH,yk]
def rh(β:jf)(G:Sp→Nat→Nat)(w:World)(M:iP)(ρ:iS→T)(e:Operand→Value):Prop:= ∀x y,mO x=some y→iE β G w M (ρ y) (e x)
theorem Xy{st:St}{a:Act}{w:World}{β:jf}{M:iP}{n:Nat}(h:pt st a w β M n):rh β st.gens w M st.rho a.eval:=by
 intro x y Ks
 cases x with
 |tmp t=>simp[mO]at Ks;subst Ks;exact h.slot t
 |const v=>
  simp only[mO,Option.map_eq_some_iff]at Ks
  obtain⟨t,r,rfl⟩:=Ks
  exact PRel.toV _ _ _ _ (rO r)
 |global g=>simp[mO]at Ks
 |func f=>grind [mO,St.rho,Act.eval,iE,iF]
def mq(P:Program)(B:mQ)(st:St)(a:Act)(w:World)(β:jf)(M:iP)(o:Oper)(v:T)(ups:List Up):Prop:=
 ∃nx cv w' r M',(execOp a.eval o).run P w= .ok nx w'∧(nx= .value cv∨(nx= .skip∧cv=undef))∧jo B (st.ups ups) w' r M'∧Tr st w β M (st.ups ups) w' r M'∧w.heap.size≤w'.heap.size∧iE r (st.ups ups).gens w' M' v cv
section
variable{P:Program}{B:mQ}{st:St}{a:Act}{w:World}{β:jf}{M:iP}{o:Oper}{v:T}{ups:List Up}
theorem ji(h:jo B st w β M){cv:Value}(r:(execOp a.eval o).run P w= .ok (.value cv) w)(D:iE β st.gens w M v cv):mq P B st a w β M o v []:=
 ⟨_,cv,w,β,M,r,.inl rfl,h,Tr.refl _ _ _ _,Nat.le_refl _,D⟩
variable(lP:rh β st.gens w M st.rho a.eval)(h:jo B st w β M)
include lP h
theorem aie{x:Operand}{y:iS}(ho:o.op= .move x∨o.op= .assign x)(r:mO x=some y):mq P B st a w β M o (st.rho y) []:=
 ji h (cv:=a.eval x) (by rcases ho with ho|ho <;> simp[execOp,ho]) (lP x y r)
theorem acP{c x y:Operand}{D E F:iS}(I:o.op= .pick c x y)(J:mO c=some D)(K:mO x=some E)(N:mO y=some F){H:Bool}(O:st.rho D= .b H):
  mq P B st a w β M o (st.rho (if H then E else F)) []:=by
 have r:=lP c D J
 rw[O]at r;simp only[iE]at r
 cases H
 ·exact ji h (cv:=a.eval y) (by simp[execOp,I,r,asBool]) (lP y F N)
 ·exact ji h (cv:=a.eval x) (by simp[execOp,I,r,asBool]) (lP x E K)
theorem akg{d nx:Nat}{x:Operand}{y:iS}(E:o.op= .nilCheck x)(H:mO x=some y){v:T}(D:(jK d st.rho (.nck y)).run st.get nx=some (.val v ups)):mq P B st a w β M o v ups:=by
 have r:=lP x y H
 simp only[jK]at D
 split at D <;> simp[Q.run]at D <;> obtain⟨rfl,rfl⟩:=D <;> rename_i e
 ·rw[e]at r
  refine ji h (cv:=a.eval x) ?_ r
  simp only[iE,PRel]at r
  obtain⟨I,off,F,_⟩:=r
  simp[execOp,E,F]
 ·rw[e]at r
  refine ji h (cv:=a.eval x) ?_ r
  simp only[iE]at r
  simp[execOp,E,r.2]
 ·rw[e]at r
  refine ji h (cv:=a.eval x) ?_ r
  simp only[iE]at r
  obtain⟨J,K,F,_⟩:=r
  simp[execOp,E,F]
end
end Go.Ev
namespace Go.Ev
open Go
theorem ES(k:IntKind)(n:Int):wr k n=k.wrap n:=by
 unfold wr
 split
 ·rename_i h
  cases k <;> simp only[lo,hi]at h <;> simp[IntKind.wrap,IntKind.bits,IntKind.signed] <;> omega
 ·rfl
theorem lj(x:ByteArray):bytesN x=x.toList.map UInt8.toNat:=by rw[ByteArray.toList_eq];rfl
theorem nV: ∀(a b:List UInt8),(a.map UInt8.toNat==b.map UInt8.toNat)=(a==b)
 | [],[]=>rfl
 | [],_::_=>rfl
 |_::_,[]=>rfl
 |x::xs,y::r=>by
  simp only[List.map_cons,List.cons_beq_cons,nV xs r]
  congr 1
  rw[Bool.eq_iff_iff];simp[UInt8.toNat_inj]
theorem LJ: ∀(a b:List UInt8),mB (a.map UInt8.toNat) (b.map UInt8.toNat)=Op.bytesLess a b
 | [],[]=>rfl
 | [],_::_=>rfl
 |_::_,[]=>rfl
 |x::xs,y::r=>by
  simp only[List.map_cons,mB,Op.bytesLess,LJ xs r]
  have D:decide (x.toNat<y.toNat)=decide (x<y):=by rw[Bool.eq_iff_iff];simp[UInt8.lt_iff_toNat_lt]
  have E:(x.toNat==y.toNat)=(x==y):=by rw[Bool.eq_iff_iff];simp[UInt8.toNat_inj]
  rw[D,E]
theorem nJ(x:ByteArray):(bytesN x).length=x.size:=by
 unfold bytesN;rw[List.length_map,Array.length_toList];rfl
theorem GG(x y:ByteArray):bytesN (x++y)=bytesN x++bytesN y:=by simp[bytesN,ByteArray.data_append]
section
variable{P:Program}{B:mQ}{st:St}{a:Act}{w:World}{β:jf}{M:iP}{o:Oper}{v:T}{ups:List Up}
theorem iE.int{k:IntKind}{n:Int}{cv:Value}{G:Sp→Nat→Nat}(h:iE β G w M (.i k n) cv):cv= .int k n:=by grind [iE]
theorem iE.str{l:List Nat}{cv:Value}{G:Sp→Nat→Nat}(h:iE β G w M (.s l) cv): ∃r,cv= .string r∧bytesN r=l:=by grind [iE]
theorem iE.bool{x:Bool}{cv:Value}{G:Sp→Nat→Nat}(h:iE β G w M (.b x) cv):cv= .bool x:=by grind [iE]
theorem acQ{op:BinOp}{k:IntKind}{x y:Int}{t:TypeId}{r:T}(h:tu op k x y=some r)(hs:op≠ .shl∧op≠ .shr): ∃cv,(binOp op t (.int k x) (.int k y)).run P w= .ok cv w∧ ∀G,iE β G w M r cv:=by
 cases op <;> simp only[tu,Option.some.injEq]at h <;> try (subst h)
 all_goals first
  |exact absurd rfl hs.1
  |exact absurd rfl hs.2
  |skip
 case quo=>
  split at h
  ·cases h
  ·rename_i D
   simp at h;subst h
   exact⟨_,by simp[binOp,Op.intDiv,D];rfl,fun G=>by simp[iE,ES]⟩
 case rem=>
  split at h
  ·cases h
  ·rename_i D
   simp at h;subst h
   exact⟨_,by simp[binOp,Op.intDiv,D];rfl,fun G=>by simp[iE]⟩
 all_goals first
  |exact⟨_,by simp[binOp,Op.intArith,Op.intBits,Op.intCmp];rfl,fun G=>by simp[iE,ES]⟩
  |cases h
theorem Ht{op:BinOp}{k k':IntKind}{x y:Int}{t:TypeId}{r:T}(h:EG op k x y=some r): ∃cv,(binOp op t (.int k x) (.int k' y)).run P w= .ok cv w∧ ∀G,iE β G w M r cv:=by
 unfold EG at h
 split at h
 ·cases h
 ·rename_i D
  cases op <;> simp at h <;> subst h
  ·exact⟨_,by simp[binOp,Op.shift,D];rfl,fun G=>by simp[iE]⟩
  ·exact⟨_,by simp[binOp,Op.shift,D];rfl,fun G=>by simp[iE]⟩
theorem acR{op:BinOp}{x y:ByteArray}{t:TypeId}{r:T}(h:SY op (bytesN x) (bytesN y)=some r): ∃cv,(binOp op t (.string x) (.string y)).run P w= .ok cv w∧ ∀G,iE β G w M r cv:=by
 have D:(bytesN x==bytesN y)=(x.toList==y.toList):=by rw[lj,lj,nV]
 have E:mB (bytesN x) (bytesN y)=Op.bytesLess x.toList y.toList:=by rw[lj,lj,LJ]
 have F:(bytesN x != bytesN y)= !(x.toList==y.toList):=by rw[bne,D]
 cases op <;> simp only[SY]at h <;> try (cases h;done)
 case add=>
  split at h
  ·rename_i H
   simp at h;subst h
   rw[nJ,nJ]at H
   have: ¬(((x.size+y.size:Nat):Int)>IntKind.i64.max):=by simp[IntKind.max,IntKind.signed,IntKind.bits];omega
   exact⟨.string (x++y),by simp only[binOp,Op.stringOp,this,if_false];rfl,fun G=>by simp only[iE];exact⟨_,rfl,GG x y⟩⟩
  ·cases h
 all_goals
  simp only[Option.some.injEq]at h
  subst h
  refine⟨_,by simp only[binOp,Op.stringOp];rfl,fun G=> ?_⟩
  simp only[iE,D,E,F]
variable(lP:rh β st.gens w M st.rho a.eval)(h:jo B st w β M)
include lP h
theorem akh{op:BinOp}{t W:TypeId}{x y:Operand}{I J:iS}(K:o.op= .binOp op t x y W)(X:mO x=some I)(Y:mO y=some J)(r:Ev.bin op (st.rho I) (st.rho J)=some v):mq P B st a w β M o v []:=by
 have N:=lP x I X
 have O:=lP y J Y
 generalize st.rho I=tx at*
 generalize st.rho J=ty at*
 have Ot: ∀k k' m n,(eqGuard op t x y (.int k m) (.int k' n)).run P w= .ok () w:=by intro k k' m n;cases op <;> simp[eqGuard]
 have U: ∀m n,(eqGuard op t x y (.string m) (.string n)).run P w= .ok () w:=by intro m n;cases op <;> simp[eqGuard]
 unfold Ev.bin at r
 split at r
 ·rename_i Z a1 V b1
  have D:=N.int;have E:=O.int
  obtain⟨cv,F,H⟩:=Ht (P:=P) (w:=w) (β:=β) (M:=M) (t:=t) (k':=V) r
  exact ji h (cv:=cv) (by simp[execOp,K,D,E,Ot,F]) (H _)
 ·rename_i Z a1 V b1
  have D:=N.int;have E:=O.int
  obtain⟨cv,F,H⟩:=Ht (P:=P) (w:=w) (β:=β) (M:=M) (t:=t) (k':=V) r
  exact ji h (cv:=cv) (by simp[execOp,K,D,E,Ot,F]) (H _)
 ·rename_i rP A4
  split at r
  ·rename_i hk
   subst hk
   have D:=N.int;have E:=O.int
   obtain⟨cv,F,H⟩:=acQ (P:=P) (w:=w) (β:=β) (M:=M) (t:=t) r ⟨fun e=>rP e,fun e=>A4 e⟩
   exact ji h (cv:=cv) (by simp[execOp,K,D,E,Ot,F]) (H _)
  ·cases r
 ·obtain⟨bx,D,rfl⟩:=N.str
  obtain⟨bY,E,rfl⟩:=O.str
  obtain⟨cv,F,H⟩:=acR (P:=P) (w:=w) (β:=β) (M:=M) (t:=t) r
  exact ji h (cv:=cv) (by simp[execOp,K,D,E,U,F]) (H _)
 ·cases r
theorem atw{op:UnOp}{t:TypeId}{x:Operand}{D:iS}(E:o.op= .unOp op t x)(H:mO x=some D)(r:Ev.un op (st.rho D)=some v):mq P B st a w β M o v []:=by
 have F:=lP x D H
 generalize st.rho D=tx at*
 unfold Ev.un at r
 split at r
 ·simp at r;subst r
  exact ji h (cv:=_) (by simp[execOp,E,F.int,Op.unary,Op.intArith];rfl) (by simp[iE,ES])
 ·simp at r;subst r
  exact ji h (cv:=_) (by simp[execOp,E,F.bool,Op.unary];rfl) (by simp only[iE])
 ·rename_i k n
  simp only[tu,Option.some.injEq]at r;subst r
  exact ji h (cv:= .int k (k.wrap (BitVec.ofInt k.bits (if k.signed then-1 else k.max) ^^^ BitVec.ofInt k.bits n).toNat)) (by simp only[execOp,E,F.int,Op.unary,Op.intBits];rfl) (by simp only[iE])
 ·cases r
theorem akj{s t:TypeId}{k:IntKind}{x:Operand}{r:iS}(E:o.op= .convert s t x)(F:mO x=some r)(hs: ∃k',P.underlying s=some (.int k'))(H:P.underlying t=some (.int k)){k':IntKind}{n:Int}(I:st.rho r= .i k' n):
  mq P B st a w β M o (.i k (wr k n)) []:=by
 have D:=lP x r F
 rw[I]at D
 obtain⟨ks,hs⟩:=hs
 exact ji h (cv:= .int k (k.wrap n)) (by simp[execOp,E,D.int,convert,run_underlying hs,run_underlying H,Conv.intToInt]) (by simp only[iE,ES])
omit h in
theorem xx: ∀{xs:List Operand} {r:List iS},BI xs=some r→iF β st.gens w M (r.map st.rho) (xs.map a.eval)
 | [],r,h=>by grind [BI,iF]
 |x::xs,r,h=>by
  simp only[BI]at h
  split at h
  ·rename_i y D E F
   simp at h;subst h
   simp only[List.map_cons,iF]
   exact⟨_,_,rfl,lP x y E,xx F⟩
  ·cases h
theorem acS{f:FuncId}{first r:Array Operand}{D cs:List iS}(E:o.op= .makeFunc (.func f) first r)(F:BI first.toList=some D)(H:BI r.toList=some cs):
  mq P B st a w β M o (.fn f (D.map st.rho) (cs.map st.rho)) []:=
 ji h (cv:= .func (.func f) (first.map a.eval) (r.map a.eval)) (by simp[execOp,E,Instr.makeFunc]) (by
  simp only[iE]
  exact⟨_,_,rfl,by simpa using xx lP F,by simpa using xx lP H⟩)
theorem akk{x:Operand}{r:iS}{j:Nat}(I:o.op= .extract x j)(J:mO x=some r){H:List T}(K:st.rho r= .tup H)(N:H[j]? =some v):mq P B st a w β M o v []:=by
 have D:=lP x r J
 rw[K]at D
 simp only[iE]at D
 obtain⟨E,e,O⟩:=D
 obtain⟨cv,U,V⟩:=O.get N
 have F:E[j]? =some cv:=by simpa using U
 exact ji h (cv:=cv) (by simp[execOp,I,e,Instr.extract,F]) V
end
end Go.Ev
namespace Go.Ev
open Go
theorem og{P:Program}{t:TypeId}{n:Nat}(h:mC P t=some n)(w:World):(sizeOf t).run P w= .ok n w:=by
 unfold mC at h
 cases hi:P.info? t with
 |none=>simp[hi]at h
 |some i=>simp[hi]at h;simp[sizeOf,typeInfo,hi,h]
theorem rQ{P:Program}{t:TypeId}{D:Bool}(h:we P t=some D)(w:World):(isAgg t).run P w= .ok D w:=by
 unfold we at h
 cases r:P.underlying t with
 |none=>simp[r]at h
 |some d=>
  simp only[r,Option.map_some,Option.some.injEq]at h
  unfold isAgg
  simp only[Sem.run_bind,run_underlying r,Result.andThen_ok]
  cases d <;> simp at h <;> subst h <;> rfl
theorem LK{P:Program}{β:jf}{G:Sp→Nat→Nat}{w:World}{M:iP}{t:TypeId}{off n:Nat}{D:Bool}{cs:List T}{r:Array Value}{v:T}(F:mC P t=some n)(H:we P t=some D)
  (E:iF β G w M cs r.toList) (hs:cs.all single=true) (h:Ev.part cs off n D=some v): ∃cv,(Go.part t r off).run P w= .ok cv w∧iE β G w M v cv:=by
 unfold Ev.part at h
 unfold Go.part
 simp only[Sem.run_bind,rQ H,Result.andThen_ok]
 cases D with
 |true=>
  simp only[if_true]at h ⊢
  split at h
  ·rename_i I
   simp at h;subst h
   refine⟨.agg (r.extract off (off+n)),by simp[og F], ?_⟩
   simp only[iE]
   refine⟨_,rfl, ?_,oJ hs _ _⟩
   have:=iF.take n (iF.drop off E)
   grind [Array.toList_extract,List.extract_eq_take_drop]
  ·cases h
 |false=>
  simp only[Bool.false_eq_true,if_false]at h ⊢
  obtain⟨cv,J,K⟩:=E.get h
  simp_all
theorem ma(b o n:Nat):(⟨b,o,none⟩:Addr).add n=⟨b,o+n,none⟩:=by grind [Addr.add]
theorem jd.drop{w:World}{M:iP}{r:Nat}: ∀{off:Nat} {ts:List T} (n:Nat),jd w M r off ts→n≤ts.length→jd w M r (off+n) (ts.drop n)
 |off,ts,0,h,_=>by simpa using h
 |off,[],n+1,h,D=>by simp at D
 |off,c::cs,n+1,h,D=>by
  simp only[jd]at h
  have:=jd.drop n h.2 (by simpa using D)
  grind
theorem jd.take{w:World}{M:iP}{r:Nat}: ∀{off:Nat} {ts:List T} (n:Nat),jd w M r off ts→jd w M r off (ts.take n)
 |off,ts,0,h=>by simp[jd]
 |off,[],n+1,h=>by simp[jd]
 |off,c::cs,n+1,h=>by
  simp only[jd]at h
  simp only[List.take_succ_cons,jd]
  exact⟨h.1,jd.take n h.2⟩
theorem jd.load{P:Program}{w:World}{M:iP}{r:Nat}: ∀{off:Nat} {ts:List T},jd w M r off ts→ ∃D:List Value,D.length=ts.length∧(∀j v,D[j]? =some v→w.cell? ⟨r,off+j,none⟩=some v)∧PList w M ts D∧ts.all single=true
 |off,[],h=>⟨[],rfl,by simp,by simp[PList],rfl⟩
 |off,c::cs,h=>by
  simp only[jd]at h
  obtain⟨⟨v,J,_,K,E⟩,F⟩:=h
  obtain⟨D,H,N,O,I⟩:=jd.load (P:=P) F
  refine⟨v::D,by simp[H],fun j u U=> ?_, ?_,by simp[E,I]⟩
  ·grind
  ·grind [PList]
theorem LL{P:Program}{β:jf}{G:Sp→Nat→Nat}{w:World}{M:iP}{t:TypeId}{n:Nat}{E:Bool}{r off o:Nat}{cs:List T}{D:List Value}{v:T}(J:mC P t=some n)(K:we P t=some E)
  (U: ∀j u,D[j]? =some u→w.cell? ⟨r,off+j,none⟩=some u) (F:iF β G w M cs D) (hs:cs.all single=true) (h:Ev.part cs o n E=some v):
  ∃cv,(loadVar t ⟨r,off+o,none⟩).run P w= .ok cv w∧iE β G w M v cv:=by
 unfold Ev.part at h
 unfold loadVar
 simp only[Sem.run_bind,rQ K,Result.andThen_ok]
 cases E with
 |true=>
  simp only[if_true]at h ⊢
  split at h
  ·rename_i N
   simp at h;subst h
   have I:=iF.length _ _ F
   have O:((D.drop o).take n).length=n:=by simp;omega
   have:=run_loadCells_list (P:=P) w ⟨r,off+o,none⟩ ((D.drop o).take n) (fun j u H=>by
    rw[ma]
    rw[List.getElem?_take]at H
    split at H
    ·grind
    ·cases H)
   rw[O]at this
   refine⟨.agg ((D.drop o).take n).toArray,by simp[og J,this], ?_⟩
   simp only[iE]
   exact⟨_,rfl,by simpa using iF.take n (iF.drop o F),oJ hs _ _⟩
  ·cases h
 |false=>
  simp only[Bool.false_eq_true,if_false]at h ⊢
  obtain⟨cv,V,W⟩:=F.get h
  grind [Go.load,Sem.run]
section
variable{P:Program}{B:mQ}{st:St}{a:Act}{w:World}{β:jf}{M:iP}{o:Oper}{v:T}{ups:List Up}
variable(lP:rh β st.gens w M st.rho a.eval)(h:jo B st w β M)
include h
theorem LM{t:TypeId}{n nx:Nat}{F:Bool}{x:T}{cx:Value}(J:mC P t=some n)(K:we P t=some F)(H:iE β st.gens w M x cx)(r:(II x n F).run st.get nx=some v):
  ∃N cv,cx= .pointer (some N)∧(loadVar t N).run P w= .ok cv w∧iE β st.gens w M v cv:=by
 unfold II at r
 split at r
 ·rename_i cs
  simp only[iE,PRel]at H
  obtain⟨Z,off,rfl,hc⟩:=H
  obtain⟨vs,_,e2,e3,e4⟩:=jd.load (P:=P) hc
  cases D:Ev.part cs 0 n F with
  |none=>simp[D,Q.of,Q.run]at r
  |some v'=>
   simp[D,Q.of,Q.run]at r;subst r
   obtain⟨cv,O,U⟩:=LL (P:=P) (β:=β) (G:=st.gens) (M:=M) J K e2 (PList.toV _ _ _ _ e3) e4 D
   grind
 ·rename_i sp k g off
  simp only[Q.run]at r
  split at r
  ·rename_i V
   have W:=h.obj sp k
   generalize he:st.get sp k=e at*
   obtain⟨I,ob⟩:=e
   dsimp only at V;subst V
   cases ob with
   |none=>simp[Q.run]at r
   |map _ _ _=>simp[Q.run]at r
   |cells cs wm bx=>
    dsimp only at r
    cases D:Ev.part cs off n F with
    |none=>simp[D,Q.of,Q.run]at r
    |some v'=>
     simp[D,Q.of,Q.run]at r;subst r
     unfold lM at W
     obtain⟨c,el,fz,X,h2,h3,h4,Y,h6,h7⟩:=W
     dsimp only at X h2 h3 Y
     have S0:iF β st.gens w M cs ((c.toList.drop (β sp k I).off).take cs.length):=by
      exact Y.toV
     simp only[iE]at H
     obtain⟨_,rfl⟩:=H
     have Xw: ∀j u,((c.toList.drop (β sp k I).off).take cs.length)[j]? =some u→w.cell? ⟨(β sp k I).blk,(β sp k I).off+j,none⟩=some u:=by
      intro j u E
      rw[List.getElem?_take]at E
      split at E
      ·rw[List.getElem?_drop]at E
       unfold World.cell?;rw[X];simpa using E
      ·cases E
     obtain⟨cv,O,U⟩:=LL (P:=P) J K Xw S0 h7.1 D
     exact⟨_,cv,rfl,O,U⟩
  ·simp[Q.run]at r
 ·simp[Q.run]at r
include lP
theorem atx{d nx:Nat}{t:TypeId}{x:Operand}{r:iS}{n:Nat}{E:Bool}(H:o.op= .load t x)(I:mO x=some r)(J:mC P t=some n)(K:we P t=some E)
  (D:(jK d st.rho (.ld r n E)).run st.get nx=some (.val v ups)):mq P B st a w β M o v ups:=by
 simp only[jK,Q.run_bind]at D
 cases F:(II (st.rho r) n E).run st.get nx with
 |none=>simp[F]at D
 |some U=>
  simp[F,Q.run]at D
  obtain⟨rfl,rfl⟩:=D
  obtain⟨V,cv,e,N,O⟩:=LM (P:=P) h J K (lP x r I) F
  exact ji h (cv:=cv) (by simp[execOp,H,e,Instr.loadAt,Instr.sureAddr,N]) O
theorem aty{d nx:Nat}{s:TypeId}{x:Operand}{F:iS}{f n:Nat}{K:Array Field}{E:Field}(N:o.op= .fieldAddr s x f)(O:mO x=some F)(hs:P.underlying s=some (.struct K))(U:K[f]? =some E)(V:mC P E.type=some n)(W:n≠0)
  (D:(jK d st.rho (.fa F E.offset)).run st.get nx=some (.val v ups)):mq P B st a w β M o v ups:=by
 have H:=lP x F O
 have I: ∀r off,a.eval x= .pointer (some ⟨r,off,none⟩)→(execOp a.eval o).run P w= .ok (.value (.pointer (some ⟨r,off+E.offset,none⟩))) w:=by
  intro r off e
  simp[execOp,N,e,Instr.fieldAt,run_underlying hs,U,Instr.sureAddr,fieldPlace,og V,W,ma]
 simp only[jK]at D
 split at D
 ·rename_i cs e
  split at D
  ·rename_i J
   simp[Q.run]at D;obtain⟨rfl,rfl⟩:=D
   rw[e]at H
   simp only[iE,PRel]at H
   obtain⟨r,off,X,Y⟩:=H
   refine ji h (I r off X) ?_
   simp only[iE,PRel]
   exact⟨r,_,rfl,jd.drop _ Y J⟩
  ·simp[Q.run]at D
 ·grind [Q.run,iE,Nat.add_assoc,ji]
 ·simp[Q.run]at D
theorem akm{d nx:Nat}{s:TypeId}{x:Operand}{E:iS}{f n:Nat}{F:Bool}{J:Array Field}{D:Field}(K:o.op= .field s x f)(N:mO x=some E)(hs:P.underlying s=some (.struct J))(O:J[f]? =some D)(U:mC P D.type=some n)(V:we P D.type=some F)
  (r:(jK d st.rho (.fld E D.offset n F)).run st.get nx=some (.val v ups)):mq P B st a w β M o v ups:=by
 have H:=lP x E N
 simp only[jK]at r
 split at r
 ·rename_i cs e
  rw[e]at H
  simp only[iE]at H
  obtain⟨W,X,Y,Z⟩:=H
  cases I:Ev.part cs D.offset n F with
  |none=>simp[I,Ev.val,Q.run]at r
  |some v'=>
   simp[I,Ev.val,Q.run]at r;obtain⟨rfl,rfl⟩:=r
   obtain⟨cv,r1,r2⟩:=LK (P:=P) U V Y Z I
   exact ji h (cv:=cv) (by simp[execOp,K,X,Instr.field,run_underlying hs,O,asAgg,r1]) r2
 ·simp[Q.run]at r
theorem akn{d nx:Nat}{t e:TypeId}{x j:Operand}{E F:iS}{len n:Nat}{H:Bool}(O:o.op= .index t x j)(U:mO x=some E)(V:mO j=some F)(W:P.underlying t=some (.array len e))(K:mC P e=some n)(X:we P e=some H)
  (r:(jK d st.rho (.ixA E F len n H)).run st.get nx=some (.val v ups)):mq P B st a w β M o v ups:=by
 have I:=lP x E U
 have N:=lP j F V
 simp only[jK]at r
 split at r
 ·rename_i jn cs D Y
  rw[Y]at I
  simp only[iE]at I
  obtain⟨Z,e3,hl,rP⟩:=I
  split at r
  ·rename_i nv
   cases J:Ev.part cs (jn*n) n H with
   |none=>simp[J,Ev.val,Q.run]at r
   |some v'=>
    simp[J,Ev.val,Q.run]at r;obtain⟨rfl,rfl⟩:=r
    unfold asNat at D
    split at D
    ·rename_i k m em
     split at D
     ·rename_i hm
      simp at D;subst D
      rw[em]at N
      have ej:=N.int
      obtain⟨cv,r1,r2⟩:=LK (P:=P) K X hl rP J
      have:0≤m∧m<(len:Int):=by omega
      exact ji h (cv:=cv) (by simp[execOp,O,e3,ej,Instr.index,run_underlying W,asIntOf,this,og K,r1]) r2
     ·cases D
    ·cases D
  ·simp[Q.run]at r
 ·simp[Q.run]at r
omit h lP in
theorem oY{t:T}{n:Nat}(e:asNat t=some n): ∃k m,t= .i k m∧0≤m∧m.toNat=n:=by
 unfold asNat at e
 grind
theorem ako{d nx:Nat}{t:TypeId}{x j:Operand}{E F:iS}(N:o.op= .index t x j)(O:mO x=some E)(U:mO j=some F)(V:P.underlying t=some .string)
  (D:(jK d st.rho (.ixS E F)).run st.get nx=some (.val v ups)):mq P B st a w β M o v ups:=by
 have J:=lP x E O
 have K:=lP j F U
 simp only[jK]at D
 split at D
 ·rename_i jn bs W X
  rw[X]at J
  obtain⟨r,Y,rfl⟩:=J.str
  obtain⟨k,m,Z,hm,rfl⟩:=oY W
  rw[Z]at K
  have ej:=K.int
  split at D
  ·rename_i c H
   simp[Q.run]at D;obtain⟨rfl,rfl⟩:=D
   unfold bytesN at H
   rw[List.getElem?_map,Option.map_eq_some_iff]at H
   obtain⟨u,hu,rfl⟩:=H
   have Ou:r[m.toNat]? =some u:=by
    have:r.data[m.toNat]? =some u:=by simpa using hu
    have nv:=(Array.getElem?_eq_some_iff.1 this).1
    have:r.data[m.toNat]=u:=(Array.getElem?_eq_some_iff.1 this).2
    show(if h:m.toNat<r.size then some r[m.toNat]else none)=some u
    have I:m.toNat<r.size:=nv
    rw[dif_pos I];exact congrArg some this
   exact ji h (cv:= .int .u8 u.toNat) (by simp[execOp,N,Y,ej,Instr.index,run_underlying V,asIntOf,hm,Ou]) (by simp only[iE])
  ·simp[Q.run]at D
 ·simp[Q.run]at D
theorem atz{d nx:Nat}{t e:TypeId}{x j:Operand}{H I:iS}{n:Nat}(V:o.op= .indexAddr t x j)(W:mO x=some H)(X:mO j=some I)(Y:P.underlying t=some (.slice e))(Z:mC P e=some n)
  (D:(jK d st.rho (.ia H I n)).run st.get nx=some (.val v ups)):mq P B st a w β M o v ups:=by
 have J:=lP x H W
 have U:=lP j I X
 have K: ∀(r off len E:Nat) k (m:Int),a.eval x= .slice (some ⟨r,off,none⟩) len E→a.eval j= .int k m→0≤m→m.toNat<len→(execOp a.eval o).run P w= .ok (.value (.pointer (some ⟨r,off+m.toNat*n,none⟩))) w:=by
  intro r off len E k m N O h1 h2
  have:0≤m∧m<(len:Int):=by omega
  simp[execOp,V,N,O,Instr.indexAt,run_underlying Y,asIntOf,this,og Z,ma]
 simp only[jK]at D
 split at D
 ·rename_i jn cs len ex N O
  split at D
  ·rename_i F
   simp[Q.run]at D;obtain⟨rfl,rfl⟩:=D
   simp at F
   obtain⟨k,m,em,hm,rfl⟩:=oY N
   rw[O]at J;rw[em]at U
   simp only[iE,PRel]at J
   obtain⟨r,off,E,sp,e3,h1,h2,h5,h3⟩:=J
   obtain rfl:sp=none:=h5.resolve_right (by have:=F.1;omega)
   refine ji h (K _ _ _ _ _ _ e3 U.int hm F.1) ?_
   simp only[iE,PRel]
   exact⟨_,_,rfl,jd.drop _ h3 (by have:=F.2;rw[Nat.add_mul]at this;omega)⟩
  ·simp[Q.run]at D
 ·grind [Q.run,iE,Nat.add_assoc,oY,ji]
 ·simp[Q.run]at D
theorem akp{d nx:Nat}{t e:TypeId}{x j:Operand}{E F:iS}{len n:Nat}(U:o.op= .indexAddr t x j)(V:mO x=some E)(W:mO j=some F)(X:P.underlying t=some (.array len e))(Y:mC P e=some n)
  (D:(jK d st.rho (.iaA E F len n)).run st.get nx=some (.val v ups)):mq P B st a w β M o v ups:=by
 have H:=lP x E V
 have O:=lP j F W
 have I: ∀(r off:Nat) k (m:Int),a.eval x= .pointer (some ⟨r,off,none⟩)→a.eval j= .int k m→0≤m→m.toNat<len→(execOp a.eval o).run P w= .ok (.value (.pointer (some ⟨r,off+m.toNat*n,none⟩))) w:=by
  intro r off k m J K h1 h2
  have:0≤m∧m<(len:Int):=by omega
  simp[execOp,U,J,K,Instr.indexAt,run_underlying X,asIntOf,Instr.sureAddr,this,og Y,ma]
 simp only[jK]at D
 split at D
 ·rename_i jn cs J K
  split at D
  ·rename_i N
   simp[Q.run]at D;obtain⟨rfl,rfl⟩:=D
   simp at N
   obtain⟨k,m,Z,hm,rfl⟩:=oY J
   rw[K]at H;rw[Z]at O
   simp only[iE,PRel]at H
   obtain⟨r,off,e3,h3⟩:=H
   refine ji h (I _ _ _ _ e3 O.int hm N.1) ?_
   simp only[iE,PRel]
   exact⟨_,_,rfl,jd.drop _ h3 (by have:=N.2;rw[Nat.add_mul]at this;omega)⟩
  ·simp[Q.run]at D
 ·grind [Q.run,iE,Nat.add_assoc,oY,ji]
 ·simp[Q.run]at D
end
end Go.Ev
namespace Go.Ev
open Go
theorem ET(s:ByteArray)(l h:Nat):bytesN (s.extract l h)=((bytesN s).drop l).take (h-l):=by
 unfold bytesN
 simp_all
theorem mb{P:Program}{w:World}{k:IntKind}{m:Int}{y:Nat}{code:BoundsCode}(r:0≤m)(D:m.toNat≤y):(Instr.sliceBound (.int k m) y code).run P w= .ok m.toNat w:=by
 have:0≤m∧m≤(y:Int):=by omega
 simp[Instr.sliceBound,asIntOf,this]
section
variable{P:Program}{B:mQ}{st:St}{a:Act}{w:World}{β:jf}{M:iP}{o:Oper}{v:T}{ups:List Up}
variable(lP:rh β st.gens w M st.rho a.eval)(h:jo B st w β M)
include lP in
theorem xy{x:Option Operand}{D:Option iS}{r n:Nat}(E:wc x=some D)(e:lr st.rho r D=some n):
  (x=none∧D=none∧n=r)∨ ∃y k m,x=some y∧a.eval y= .int k m∧0≤m∧m.toNat=n:=by
 cases x with
 |none=>grind [wc,lr]
 |some y=>
  simp only[wc,Option.map_eq_some_iff]at E
  obtain⟨F,H,rfl⟩:=E
  simp only[lr]at e
  obtain⟨k,m,I,J,K⟩:=oY e
  have:=lP y F H
  rw[I]at this
  exact .inr ⟨y,k,m,rfl,this.int,J,K⟩
include lP in
theorem vR{lo hi:Option Operand}{D Hu:Option iS}{isS:Bool}{len r l F:Nat}(J:wc lo=some D)(K:wc hi=some Hu)(N:lr st.rho 0 D=some l)(O:lr st.rho len Hu=some F)
  (H:l≤F) (I:F≤len) (E:len≤r):(Instr.sliceBounds isS len r (lo.map a.eval) (hi.map a.eval) none).run P w= .ok (l,F,r) w:=by
 unfold Instr.sliceBounds
 rcases xy lP J N with⟨rfl,rfl,rfl⟩|⟨y,k,m,rfl,ey,hm,rfl⟩ <;> rcases xy lP K O with⟨rfl,rfl,rfl⟩|⟨y2,k2,m2,rfl,ey2,hm2,rfl⟩
 ·simp
 ·simp[ey2,mb hm2 (Nat.le_trans I E)]
 ·simp[ey,mb hm H]
 ·simp[ey,ey2,mb hm2 (Nat.le_trans I E),mb hm H]
include lP h
theorem akq{d nx:Nat}{t:TypeId}{x:Operand}{F:iS}{lo hi:Option Operand}{D Hu:Option iS}(K:o.op= .slice t x lo hi none)(N:mO x=some F)(O:wc lo=some D)(U:wc hi=some Hu)(V:P.underlying t=some .string)
  (r:(jK d st.rho (.slS F D Hu)).run st.get nx=some (.val v ups)):mq P B st a w β M o v ups:=by
 have H:=lP x F N
 simp only[jK]at r
 split at r
 ·rename_i Z e
  rw[e]at H
  obtain⟨s,W,rfl⟩:=H.str
  split at r
  ·rename_i l I X J
   split at r
   ·rename_i E
    simp at E
    simp[Q.run]at r;obtain⟨rfl,rfl⟩:=r
    rw[nJ]at J E
    have Y:=vR (P:=P) (w:=w) (isS:=false) lP O U X J E.1 E.2 (Nat.le_refl _)
    refine ji h (cv:= .string (s.extract l I)) ?_ (by simp only[iE];exact⟨_,rfl,ET s l I⟩)
    simp[execOp,K,W,Instr.sliceAt,run_underlying V,Instr.slice,Y]
   ·simp[Q.run]at r
  ·simp[Q.run]at r
 ·simp[Q.run]at r
theorem akr{d nx:Nat}{t e:TypeId}{n:Nat}{x:Operand}{X:iS}{lo hi mx:Option Operand}{U Hu Y:Option iS}(ho:o.op= .slice t x lo hi mx)(hx:mO x=some X)(h1:wc lo=some U)(h2:wc hi=some Hu)(h3:wc mx=some Y)
  (ht:P.underlying t=some (.slice e)) (hn:mC P e=some n) (h0:n≠0) (hmx:mx.isSome=true→hi.isSome=true)
  (F:(jK d st.rho (.slV n X U Hu Y)).run st.get nx=some (.val v ups)):mq P B st a w β M o v ups:=by
 have H:=lP x X hx
 simp only[jK]at F
 cases D:wb (st.rho X)with
 |none=>grind [Q.run]
 |some len=>
  simp only[D]at F
  cases Z:lr st.rho 0 U with
  |none=>simp[Z,Q.run]at F
  |some l=>
   cases e2:lr st.rho len Hu with
   |none=>grind [Q.run]
   |some O=>
    cases mx with
    |none=>
     simp[wc]at h3;subst h3
     simp only[Z,e2,Q.run_bind]at F
     have I: ∀(J:Option Addr) r,a.eval x= .slice J len r→l≤O→O≤len→len≤r→
       (execOp a.eval o).run P w= .ok (.value (.slice (if r=l then J else J.map (·.add (l*n))) (O-l) (r-l))) w:=by
      intro J r ex EU NW hl3
      have hb:=vR (P:=P) (w:=w) (isS:=true) lP h1 h2 Z e2 EU NW hl3
      simp[execOp,ho,ex,Instr.sliceAt,run_underlying ht,Instr.slice,hb,og hn]
     cases hs:(Cw n (st.rho X) l O).run st.get nx with
     |none=>simp[hs]at F
     |some v'=>
      simp[hs,Q.run]at F;obtain⟨rfl,rfl⟩:=F
      unfold Cw at hs
      split at hs
      ·grind [Q.run,wb,iE,ji]
      ·rename_i cs Xz ex' ex
       rw[ex]at H D
       simp[wb]at D;subst D
       split at hs
       ·rename_i K
        simp[Q.run]at hs;subst hs
        simp at K
        obtain⟨⟨c1,c2⟩,c3⟩:=K
        simp only[iE,PRel]at H
        obtain⟨E,off,r,sp,N,p1,p2,p4,p3⟩:=H
        refine ji h (I _ _ N c1 c2 p1) ?_
        simp only[iE,PRel]
        by_cases EV:r=l
        ·rw[if_pos EV]
         have:O=l:=by omega
         subst this
         refine⟨E,off,r-O,sp,by simp,by omega,fun V=>by omega,.inr (by omega), ?_⟩
         simp[jd]
        ·rw[if_neg EV]
         obtain rfl:sp=none:=p4.resolve_right (by omega)
         refine⟨E,off+l*n,r-l,none,by simp[ma],by omega,fun V=> ?_,.inl rfl, ?_⟩
         ·simp at V
          have:=p2 V.1
          omega
         ·refine jd.take _ (jd.drop _ p3 ?_)
          rw[c3];exact Nat.mul_le_mul_right n (Nat.le_trans c1 c2)
       ·simp[Q.run]at hs
      ·rename_i sp k g off Xz sz ex
       rw[ex]at H D
       simp[wb]at D;subst D
       split at hs
       ·rename_i K
        simp[Q.run]at hs;subst hs
        simp at K
        obtain⟨⟨c1,c2⟩,rfl⟩:=K
        simp only[iE]at H
        obtain⟨q1,r,N,p1,p2⟩:=H
        refine ji h (I _ _ N c1 c2 p1) ?_
        by_cases hlh:l=O
        ·subst hlh
         rw[if_pos rfl]
         by_cases hz:sp= .S∧l=0∧off=0
         ·rw[if_pos hz]
          obtain⟨_,rfl,rfl⟩:=hz
          simp only[iE]
          refine⟨q1,r, ?_,Nat.zero_le _,p2⟩
          by_cases EV:r=0
          ·rw[if_pos EV];simp
          ·rw[if_neg EV];simp[ma]
         rw[if_neg hz]
         simp only[iE,PRel]
         by_cases EV:r=l
         ·rw[if_pos EV]
          exact⟨(β sp k g).blk,(β sp k g).off+off,r-l,none,by simp,by omega,(fun e=>by cases e),.inl rfl,by simp[jd]⟩
         ·rw[if_neg EV]
          exact⟨(β sp k g).blk,(β sp k g).off+off+l*sz,r-l,none,by simp[ma],by omega,(fun e=>by cases e),.inl rfl,by simp[jd]⟩
        ·rw[if_neg hlh,if_neg (by omega)]
         simp only[iE]
         refine⟨q1,r-l,by simp[ma,Nat.add_assoc],by omega, ?_⟩
         have:(r-l)*sz+l*sz=r*sz:=by rw[←Nat.add_mul];congr 1;omega
         omega
       ·simp[Q.run]at hs
      ·simp[Q.run]at hs
    |some m=>
     simp only[wc,Option.map_eq_some_iff]at h3
     obtain⟨m',hm',rfl⟩:=h3
     have vm:=lP m m' hm'
     have I: ∀(J:Option Addr) r,a.eval x= .slice J len r→ ∀k (z:Int),a.eval m= .int k z→z=0→l=0→O=0→
       (execOp a.eval o).run P w= .ok (.value (.slice J 0 0)) w:=by
      intro J r ex k z em hz Cz Qw
      subst hz;subst Cz;subst Qw
      have hb:(Instr.sliceBounds true len r (lo.map a.eval) (hi.map a.eval) (some (.int k 0))).run P w= .ok (0,0,0) w:=by
       unfold Instr.sliceBounds
       rcases xy lP h2 e2 with⟨rfl,rfl,hx0⟩|⟨y2,k2,m2,rfl,ey2,hm2,NX⟩
       ·simp at hmx
       ·have b1:=mb (P:=P) (w:=w) (k:=k) (m:=0) (y:=r) (code:= .slice3Acap) (by omega) (by simp)
        have b2:=mb (P:=P) (w:=w) (k:=k2) (m:=m2) (y:=0) (code:= .slice3B) hm2 (by omega)
        rcases xy lP h1 Z with⟨rfl,rfl,_⟩|⟨y,k1,m1,rfl,ey,hm,hz1⟩
        ·simp_all
        ·have b3:=mb (P:=P) (w:=w) (k:=k1) (m:=m1) (y:=m2.toNat) (code:= .slice3C) hm (by omega)
         simp_all
      cases J <;> simp[execOp,ho,ex,em,Instr.sliceAt,run_underlying ht,Instr.slice,hb,og hn]
     simp only[Z,e2]at F
     cases em:asNat (st.rho m')with
     |none=>simp[em,Q.run]at F
     |some z=>
      obtain⟨km,zm,ez,hz1,NX⟩:=oY em
      rw[ez]at vm
      have vm':=vm.int
      split at F
      ·grind [iE,wb,Q.run,ji]
      ·rename_i W mR
       rw[em]at W
       simp at W;subst W
       split at F
       ·rename_i K
        simp at K
        simp[Q.run]at F;obtain⟨rfl,rfl⟩:=F
        have: ∃E off r sp,a.eval x= .slice (some ⟨E,off,sp⟩) len r:=by
         generalize st.rho X=tx at*
         cases tx <;> simp[wb]at D
         case nilsl=>exact absurd rfl mR
         case sl cs Xz ex=>
          subst D
          simp only[iE,PRel]at H
          obtain⟨E,off,r,sp,N,_⟩:=H
          exact⟨E,off,r,sp,N⟩
         case isl sp k g off Xz sz=>
          subst D
          simp only[iE]at H
          obtain⟨_,r,N,_⟩:=H
          exact⟨_,_,r,none,N⟩
        obtain⟨E,off,r,sp,N⟩:=this
        refine ji h (I _ _ N km zm vm' (by omega) K.1 K.2) ?_
        simp only[iE,PRel]
        exact⟨E,off,0,sp,rfl,Nat.le_refl _,fun _=>rfl,.inr rfl,by simp[jd]⟩
       ·simp[Q.run]at F
      ·simp[Q.run]at F
end
end Go.Ev
namespace Go.Ev
open Go
section
variable{P:Program}{B:mQ}{st:St}{a:Act}{w:World}{β:jf}{M:iP}{o:Oper}{v:T}{ups:List Up}
theorem Ov{D:Bool}{x y:T}{E:List T}{r:T}(h:oC D x (y::E)=some r): ∃k n,x= .i k n:=by
 unfold oC at h
 grind
theorem lQ{c:Call}{b:Builtin}(r:o.op= .call c)(D:c.callee= .builtin b):
  (execOp a.eval o).run P w=(builtin b c.argTypes o.type (c.args.map fun| .const _=>true|_=>false) (c.args.map a.eval)).run P w:=by
 simp only[execOp,r,resolve,D,Sem.run_bind]
 rfl
theorem zS{args:Array Operand}{x:Operand}(h:args.toList= [x])(f:Operand→Value):args.map f= #[f x]:=by
 apply Array.ext';simp[h]
theorem acV{args:Array Operand}{x y:Operand}(h:args.toList= [x,y])(f:Operand→Value):args.map f= #[f x,f y]:=by
 apply Array.ext';simp[h]
variable(lP:rh β st.gens w M st.rho a.eval)(h:jo B st w β M)
include lP h
theorem acW{d nx:Nat}{c:Call}{t:TypeId}{x:Operand}{D:iS}(F:o.op= .call c)(H:c.callee= .builtin .len)(I:c.argTypes[0]? =some t)(J:c.args.toList= [x])(K:P.underlying t=some .string)(N:mO x=some D)
  (r:(jK d st.rho (.lenS D)).run st.get nx=some (.val v ups)):mq P B st a w β M o v ups:=by
 have E:=lP x D N
 simp only[jK]at r
 split at r
 ·rename_i U e
  simp[Q.run]at r;obtain⟨rfl,rfl⟩:=r
  rw[e]at E
  obtain⟨s,O,rfl⟩:=E.str
  refine ji h (cv:= .int .i64 s.size) ?_ (by simp only[iE,nJ])
  rw[lQ F H,zS J]
  simp[builtin,Builtin.len_,I,O,run_underlying K,goInt]
 ·simp[Q.run]at r
theorem acX{d nx:Nat}{c:Call}{t e:TypeId}{x:Operand}{r:iS}(I:o.op= .call c)(J:c.callee= .builtin .len)(K:c.argTypes[0]? =some t)(N:c.args.toList= [x])(O:P.underlying t=some (.slice e))(U:mO x=some r)
  (E:(jK d st.rho (.lenV r)).run st.get nx=some (.val v ups)):mq P B st a w β M o v ups:=by
 have X:=lP x r U
 simp only[jK]at E
 cases F:wb (st.rho r)with
 |none=>simp[F,Ev.val,Q.run]at E
 |some n=>
  simp[F,Ev.val,Q.run]at E;obtain⟨rfl,rfl⟩:=E
  have: ∃H D,a.eval x= .slice H n D:=by
   generalize st.rho r=V at*
   cases V <;> simp[wb]at F
   case nilsl=>grind [iE]
   case sl cs Xz ex=>grind [iE,PRel]
   grind [iE]
  obtain⟨H,D,W⟩:=this
  refine ji h (cv:= .int .i64 n) ?_ (by simp only[iE])
  rw[lQ I J,zS N]
  simp[builtin,Builtin.len_,K,W,run_underlying O,goInt]
theorem acY{d nx:Nat}{c:Call}{t kt et:TypeId}{x:Operand}{K:iS}(U:o.op= .call c)(V:c.callee= .builtin .len)(W:c.argTypes[0]? =some t)(X:c.args.toList= [x])(Y:P.underlying t=some (.map kt et))(hx:mO x=some K)
  (D:(jK d st.rho (.lenM K)).run st.get nx=some (.val v ups)):mq P B st a w β M o v ups:=by
 have F:=lP x K hx
 have I: ∀E H r,a.eval x= .map (some E)→w.heap[E]? =some (.map H r)→(execOp a.eval o).run P w= .ok (.value (.int .i64 H.size)) w:=by
  intro E H r N J
  rw[lQ U V,zS X]
  simp[builtin,Builtin.len_,W,N,run_underlying Y,goInt,getObj,Sem.run,J]
 simp only[jK]at D
 split at D
 ·rename_i e
  simp[Q.run]at D;obtain⟨rfl,rfl⟩:=D
  rw[e]at F;simp only[iE]at F
  refine ji h (cv:= .int .i64 0) ?_ (by simp only[iE])
  rw[lQ U V,zS X]
  simp[builtin,Builtin.len_,W,F,run_underlying Y,goInt]
 ·rename_i ks vs e
  simp[Q.run]at D;obtain⟨rfl,rfl⟩:=D
  rw[e]at F;simp only[iE,PRel]at F
  obtain⟨E,H,r,N,J,_,_,O,_⟩:=F
  refine ji h (I E H r N J) ?_
  simp only[iE]
  have:=PList.length _ _ O
  grind
 ·rename_i sp k g e
  simp only[Q.run]at D
  split at D
  ·rename_i Z
   have C7:=h.obj sp k
   generalize he:st.get sp k=en at*
   obtain⟨ge,ob⟩:=en
   dsimp only at Z;subst Z
   cases ob with
   |none=>simp[Q.run]at D
   |cells _ _ _=>simp[Q.run]at D
   |map ks vs f=>
    simp[Q.run]at D;obtain⟨rfl,rfl⟩:=D
    rw[e]at F;simp only[iE]at F
    unfold lM at C7
    obtain⟨H,r,J,_,O,_⟩:=C7
    refine ji h (I _ H r F.2 J) ?_
    simp only[iE]
    have:=PList.length _ _ O
    simp at this;rw[this]
  ·simp[Q.run]at D
 ·simp[Q.run]at D
omit lP in
theorem acZ{c:Call}{t e:TypeId}{n:Nat}{x:Operand}(r:o.op= .call c)(D:c.callee= .builtin .len)(E:c.argTypes[0]? =some t)(F:c.args.toList= [x])(H:P.underlying t=some (.array n e)):
  mq P B st a w β M o (.i .i64 n) []:=by
 refine ji h (cv:= .int .i64 n) ?_ (by simp only[iE])
 rw[lQ r D,zS F]
 simp[builtin,Builtin.len_,E,run_underlying H,goInt]
omit lP h in
theorem Qx{k:IntKind}: ∀(D:List T) (F:List Value) (x:Int) (r:T),iF β st.gens w M D F→oC false (.i k x) D=some r→ ∃n,r= .i k n∧(F.foldlM Builtin.min2 (.int k x)).run P w= .ok (.int k n) w
 | [],F,x,r,H,E=>by
   simp_all[iF,oC]
 |t::ts,F,x,r,H,E=>by
  simp only[iF]at H
  obtain⟨u,us,rfl,I,J⟩:=H
  cases t <;> simp only[oC]at E <;> try (cases E;done)
  rename_i k' y
  split at E
  ·rename_i K;subst K
   have:=I.int;subst this
   obtain⟨n,N,O⟩:=Qx ts us _ r J E
   grind [Sem.run_bind,Builtin.min2,Sem.run_pure,Result.andThen_ok]
  ·cases E
omit lP h in
theorem Qy{k:IntKind}: ∀(D:List T) (F:List Value) (x:Int) (r:T),iF β st.gens w M D F→oC true (.i k x) D=some r→ ∃n,r= .i k n∧(F.foldlM Builtin.max2 (.int k x)).run P w= .ok (.int k n) w
 | [],F,x,r,H,E=>by
   simp_all[iF,oC]
 |t::ts,F,x,r,H,E=>by
  simp only[iF]at H
  obtain⟨u,us,rfl,I,J⟩:=H
  cases t <;> simp only[oC]at E <;> try (cases E;done)
  rename_i k' y
  split at E
  ·rename_i K;subst K
   have:=I.int;subst this
   obtain⟨n,N,O⟩:=Qy ts us _ r J E
   grind [Sem.run_bind,Builtin.max2,Sem.run_pure,Result.andThen_ok]
  ·cases E
theorem aih{d nx:Nat}{D:Bool}{c:Call}{as:List iS}(J:o.op= .call c)(K:c.callee= .builtin (if D then .max else .min))(Z:BI c.args.toList=some as)
  (H:(jK d st.rho (.mm D as)).run st.get nx=some (.val v ups)):mq P B st a w β M o v ups:=by
 have N:=xx lP Z
 simp only[jK]at H
 split at H
 ·rename_i x E e
  cases F:oC D x E with
  |none=>simp[F,Ev.val,Q.run]at H
  |some r=>
   simp[F,Ev.val,Q.run]at H;obtain⟨rfl,rfl⟩:=H
   rw[e]at N
   simp only[iF]at N
   obtain⟨u,us,O,W,I⟩:=N
   cases E with
   |nil=>
    simp[oC]at F;subst F
    simp only[iF]at I;subst I
    refine ji h (cv:=u) ?_ W
    rw[lQ J K]
    cases D <;> simp[builtin,Builtin.min_,Builtin.max_,O]
   |cons y X=>
    obtain⟨k,Y,rfl⟩:=Ov F
    have:=W.int;subst this
    cases D with
    |false=>
     obtain⟨n,U,V⟩:=Qx (P:=P) (y::X) us Y r I F
     subst U
     refine ji h (cv:= .int k n) ?_ (by simp only[iE])
     rw[lQ J K]
     simp[builtin,Builtin.min_,O,V]
    |true=>
     obtain⟨n,U,V⟩:=Qy (P:=P) (y::X) us Y r I F
     subst U
     refine ji h (cv:= .int k n) ?_ (by simp only[iE])
     rw[lQ J K]
     simp[builtin,Builtin.max_,O,V]
 ·simp[Q.run]at H
end
theorem uW{P:Program}{t:TypeId}{k:CK}(h:xX P t=some k):match k with| .int=> ∃r,P.underlying t=some (.int r)| .str=>P.underlying t=some .string| .bool=>P.underlying t=some .bool:=by
 grind [xX]
theorem yJ{P:Program}{β:jf}{G:Sp→Nat→Nat}{w:World}{M:iP}{t:TypeId}{k:CK}{x y:T}{cx H:Value}{r:Bool}(d:Nat)(I:xX P t=some k)(E:iE β G w M x cx)(F:iE β G w M y H)(h:my k x y=some r):
  (Op.equalIn (d+1) t cx H).run P w= .ok r w:=by
 have D:=uW I
 unfold my at h
 split at h
 ·simp at h;subst h
  rw[E.bool,F.bool]
  exact run_equalIn_bool' w d t _ _ D
 ·split at h
  ·rename_i e;subst e
   simp at h;subst h
   obtain⟨J,D⟩:=D
   rw[E.int,F.int]
   exact run_equalIn_int w d t _ J _ _ D
  ·cases h
 ·simp at h;subst h
  obtain⟨bx,K,rfl⟩:=E.str
  obtain⟨O,N,rfl⟩:=F.str
  rw[K,N,run_equalIn_string w d t _ _ D,lj,lj,nV]
 ·cases h
theorem zU{P:Program}{β:jf}{G:Sp→Nat→Nat}{w:World}{M:iP}(d:Nat){J K:Array Value}{xs H:List T}(W:iF β G w M xs J.toList)(X:iF β G w M H K.toList):
  ∀(I:List Field) (i:Nat) (ks:List CK) (r:Bool),po P i I=some ks→j4 ks (xs.drop i) (H.drop i)=some r→(Op.eqFields (d+1) J K I).run P w= .ok r w
 | [],i,ks,r,E,D=>by
   simp[po]at E;subst E
   generalize xs.drop i=Z at D
   generalize H.drop i=yd at D
   cases Z <;> cases yd <;> simp[j4]at D
   subst D;simp[Op.eqFields]
 |f::I,i,ks,r,E,D=>by
  simp only[po]at E
  split at E
  ·rename_i F
   simp at F
   obtain⟨⟨c1,c2⟩,c3⟩:=F
   split at E
   ·rename_i k N Y h2
    simp at E;subst E
    cases NY:xs.drop i with
    |nil=>grind [j4]
    |cons x xr=>
     cases Qz:H.drop i with
     |nil=>grind [j4]
     |cons y yr=>
      rw[NY,Qz]at D
      simp only[j4]at D
      have gx:xs[i]? =some x:=by have:=congrArg (·[0]?) NY;simpa using this
      have gy:H[i]? =some y:=by have:=congrArg (·[0]?) Qz;simpa using this
      obtain⟨cx,ax,vx⟩:=W.get gx
      obtain⟨cy,ay,vy⟩:=X.get gy
      have agg:we P f.type=some false:=by
       have:=uW Y
       grind [we]
      have mI:(Go.part f.type J f.offset).run P w= .ok cx w:=by
       simp_all[Go.part,Sem.run_bind,rQ,Result.andThen_ok]
      have O:(Go.part f.type K f.offset).run P w= .ok cy w:=by
       simp_all[Go.part,Sem.run_bind,rQ,Result.andThen_ok]
      have U:xs.drop (i+1)=xr:=by rw[←List.drop_drop,NY];rfl
      have V:H.drop (i+1)=yr:=by rw[←List.drop_drop,Qz];rfl
      simp only[Op.eqFields,if_pos (show f.name≠ "_" from c2),Sem.run_bind,mI,O,Result.andThen_ok]
      cases F:my k x y with
      |none=>simp[F]at D
      |some b=>
       rw[yJ d Y vx vy F]
       cases b with
       |false=>simp[F]at D;subst D;simp
       |true=>
        simp only[F]at D
        simp only[Result.andThen_ok,Bool.not_true,Bool.false_eq_true,if_false]
        exact zU d W X I (i+1) N r h2 (by rw[U,V];exact D)
   ·cases E
  ·cases E
theorem CA{P:Program}{β:jf}{G:Sp→Nat→Nat}{w:World}{M:iP}(d:Nat){e:TypeId}{k:CK}(K:xX P e=some k){H I:Array Value}{xs E:List T}(V:iF β G w M xs H.toList)(W:iF β G w M E I.toList):
  ∀(n i:Nat) (r:Bool),j4 (List.replicate n k) (xs.drop i) (E.drop i)=some r→(Op.eqItems (d+1) e 1 H I (List.range' i n)).run P w= .ok r w
 |0,i,r,D=>by
  generalize xs.drop i=Y at D
  generalize E.drop i=Z at D
  cases Y <;> cases Z <;> simp[j4]at D
  subst D;simp[Op.eqItems]
 |n+1,i,r,D=>by
  rw[List.replicate_succ]at D
  cases NY:xs.drop i with
  |nil=>rw[NY]at D;cases E.drop i <;> simp[j4]at D
  |cons x xr=>
   cases Qz:E.drop i with
   |nil=>rw[NY,Qz]at D;simp[j4]at D
   |cons y yr=>
    rw[NY,Qz]at D
    simp only[j4]at D
    have gx:xs[i]? =some x:=by have:=congrArg (·[0]?) NY;simpa using this
    have gy:E[i]? =some y:=by have:=congrArg (·[0]?) Qz;simpa using this
    obtain⟨cx,ax,vx⟩:=V.get gx
    obtain⟨X,ay,vy⟩:=W.get gy
    have F:we P e=some false:=by
     have:=uW K
     unfold we
     cases k
     ·obtain⟨ik,e⟩:=this;simp[e]
     ·simp[this]
     ·simp[this]
    have mI:(Go.part e H (i*1)).run P w= .ok cx w:=by
     unfold Go.part;simp only[Sem.run_bind,rQ F,Result.andThen_ok]
     have:H[i]? =some cx:=by simpa using ax
     simp[this]
    have N:(Go.part e I (i*1)).run P w= .ok X w:=by
     unfold Go.part;simp only[Sem.run_bind,rQ F,Result.andThen_ok]
     have:I[i]? =some X:=by simpa using ay
     simp[this]
    have O:xs.drop (i+1)=xr:=by rw[←List.drop_drop,NY];rfl
    have U:E.drop (i+1)=yr:=by rw[←List.drop_drop,Qz];rfl
    simp only[List.range'_succ,Op.eqItems,Sem.run_bind,mI,N,Result.andThen_ok]
    cases J:my k x y with
    |none=>simp[J]at D
    |some b=>
     rw[yJ d K vx vy J]
     cases b with
     |false=>simp[J]at D;subst D;simp
     |true=>
      simp only[J]at D
      simp only[Result.andThen_ok,Bool.not_true,Bool.false_eq_true,if_false]
      exact CA d K V W n (i+1) r (by rw[O,U];exact D)
theorem rR{P:Program}{t:TypeId}{k:EK}(h:EM P t=some k):match k with
  | .one c=>xX P t=some c
  | .flat ks=>P.eqGuardType P.depth t=false∧((∃D,P.underlying t=some (.struct D)∧P.stoodInHeld t=false∧po P 0 D.toList=some ks)∨ ∃n e c,P.underlying t=some (.array n e)∧P.cellsOf e=1∧xX P e=some c∧ks=List.replicate n c)
  | .sl=> ∃e,P.underlying t=some (.slice e)
  | .ptr=> ∃e,P.underlying t=some (.pointer e)
  | .map=> ∃a b,P.underlying t=some (.map a b):=by
 unfold EM at h
 split at h
 ·simp at h;subst h;rename_i e;simp[xX,e]
 ·simp at h;subst h;rename_i e;simp[xX,e]
 ·simp at h;subst h;rename_i e;simp[xX,e]
 ·simp at h;subst h;rename_i x e;exact⟨x,e⟩
 ·simp at h;subst h;rename_i x e;exact⟨x,e⟩
 ·simp at h;subst h;rename_i x y e;exact⟨x,y,e⟩
 ·rename_i D e
  split at h
  ·rename_i r
   simp only[Option.map_eq_some_iff]at h
   obtain⟨ks,E,rfl⟩:=h
   simp at r
   exact⟨r.1,.inl ⟨D,e,r.2,E⟩⟩
  ·cases h
 ·rename_i n e F
  split at h
  ·rename_i r
   simp only[Option.map_eq_some_iff]at h
   obtain⟨c,E,rfl⟩:=h
   simp at r
   exact⟨r.1,.inr ⟨n,e,c,F,r.2,E,rfl⟩⟩
  ·cases h
 ·cases h
theorem C8{P:Program}(w:World)(d:Nat)(t e:TypeId)(p:Option Addr)(h:P.underlying t=some (.pointer e)):(Op.equalIn (d+1) t (.pointer p) (.pointer none)).run P w= .ok p.isNone w:=by
 cases p <;> simp[Op.equalIn,run_underlying h]
theorem tw{P:Program}(w:World)(t e:TypeId)(p:Option Addr)(h:P.underlying t=some (.pointer e)):(Op.equal t (.pointer p) (.pointer none)).run P w= .ok p.isNone w:=C8 w 9999 t e p h
theorem QA{P:Program}{β:jf}{G:Sp→Nat→Nat}{w:World}{M:iP}{t:TypeId}{k:EK}{x y:T}{cx O:Value}{r:Bool}(Z:EM P t=some k)(E:iE β G w M x cx)(F:iE β G w M y O)(h:xW k x y=some r):
  (Op.equal t cx O).run P w= .ok r w:=by
 have D:=rR Z
 unfold xW at h
 split at h
 ·exact yJ 9999 D E F h
 ·rename_i ks xs ys
  simp only[iE]at E F
  obtain⟨U,rfl,V,_⟩:=E
  obtain⟨W,rfl,X,_⟩:=F
  obtain⟨u2,⟨fs,J,N,K⟩|⟨n,e,c,J,N,K,rfl⟩⟩:=D
  ·have Y:P.fieldsOf t=fs:=by simp[Program.fieldsOf,J]
   have:=run_equalIn_struct w 9999 t U W (by rw[Y];exact J) N
   rw[Y]at this
   exact this.trans (zU 9998 V X _ 0 ks r K (by simpa using h))
  ·obtain⟨inf,hi⟩: ∃i,P.info? e=some i:=by
    cases H:P.underlying e with
    |none=>simp[xX,H]at K
    |some _=>exact info_of_underlying H
   have:=run_equalIn_array w 9999 U W J hi
   rw[N,List.range_eq_range']at this
   exact this.trans (CA 9998 K V X n 0 r (by simpa using h))
 ·simp at h;subst h
  obtain⟨e,D⟩:=D
  simp only[iE]at E F;subst E;subst F
  exact run_equal_slice_nil w t e _ _ _ D
 ·simp at h;subst h
  obtain⟨e,D⟩:=D
  simp only[iE,PRel]at E F
  obtain⟨_,_,_,_,rfl,_⟩:=E;subst F
  exact run_equal_slice_nil w t e _ _ _ D
 ·simp at h;subst h
  obtain⟨e,D⟩:=D
  simp only[iE]at E F
  obtain⟨_,_,rfl,_⟩:=E;subst F
  exact run_equal_slice_nil w t e _ _ _ D
 ·grind [iE,tw]
 ·grind [iE,PRel,tw]
 ·grind [iE,tw]
 ·simp at h;subst h
  obtain⟨e,I,D⟩:=D
  simp only[iE]at E F;subst E;subst F
  exact run_equal_map_nil w t e I _ D
 ·simp at h;subst h
  obtain⟨e,I,D⟩:=D
  simp only[iE,PRel]at E F
  obtain⟨_,_,_,rfl,_⟩:=E;subst F
  exact run_equal_map_nil w t e I _ D
 ·simp at h;subst h
  obtain⟨e,I,D⟩:=D
  simp only[iE]at E F
  obtain⟨_,rfl⟩:=E;subst F
  exact run_equal_map_nil w t e I _ D
 ·cases h
end Go.Ev
namespace Go.Ev
open Go
section
variable{P:Program}{B:mQ}{st:St}{a:Act}{w:World}{β:jf}{M:iP}{o:Oper}{v:T}{ups:List Up}
variable(lP:rh β st.gens w M st.rho a.eval)(h:jo B st w β M)
include lP h in
theorem QB{neg:Bool}{k:EK}{t Z:TypeId}{x y:Operand}{O U:iS}(X:o.op= .binOp (if neg then .neq else .eql) t x y Z)(hx:mO x=some O)(hy:mO y=some U)(Y:EM P t=some k)(hn:k≠ .one .int∧k≠ .one .str){r:Bool}
  (K:xW k (st.rho O) (st.rho U)=some r):mq P B st a w β M o (.b (r != neg)) []:=by
 have E:=lP x O hx
 have F:=lP y U hy
 have W:=QA (P:=P) Y E F K
 have hu:=rR Y
 refine ji h (cv:= .bool (r != neg)) ?_ (by simp only[iE])
 generalize st.rho O=tx at*
 generalize st.rho U=ty at*
 have D: ∀cx I,a.eval x=cx→a.eval y=I→(eqGuard (if neg then .neq else .eql) t x y cx I).run P w= .ok () w→
   ((binOp .eql t cx I)=(do pure (.bool (←Op.equal t cx I))))→((binOp .neq t cx I)=(do pure (.bool (!(←Op.equal t cx I)))))→(execOp a.eval o).run P w= .ok (.value (.bool (r != neg))) w:=by
  intro cx I H N V e4 e5
  rw[H,N]at W
  cases neg
  ·simp at V
   simp[execOp,X,H,N,V,e4,W]
  ·simp at V
   simp[execOp,X,H,N,V,e5,W]
 have J: ∀cx I,(∀z,cx≠ .agg z)→cx≠ .nilIface→(eqGuard (if neg then .neq else .eql) t x y cx I).run P w= .ok () w:=by
  intro cx I h1 h2
  cases neg <;> cases cx <;> simp[eqGuard]at*
 unfold xW at K
 split at K
 ·rename_i c
  unfold my at K
  split at K
  ·exact D _ _ E.bool F.bool (J _ _ (by simp) (by simp)) rfl rfl
  ·grind
  ·grind
  ·cases K
 ·obtain⟨u2,_⟩:=hu
  simp only[iE]at E F
  obtain⟨xa,H,_⟩:=E
  obtain⟨ya,N,_⟩:=F
  exact D _ _ H N (run_eqGuard_agg w _ t x y xa ya u2) rfl rfl
 ·simp only[iE]at E F
  exact D _ _ E F (J _ _ (by simp) (by simp)) rfl rfl
 ·simp only[iE,PRel]at E F
  obtain⟨_,_,_,_,H,_⟩:=E
  exact D _ _ H F (J _ _ (by simp) (by simp)) rfl rfl
 ·simp only[iE]at E F
  obtain⟨_,_,H,_⟩:=E
  exact D _ _ H F (J _ _ (by simp) (by simp)) rfl rfl
 ·simp only[iE]at E F
  exact D _ _ E F (J _ _ (by simp) (by simp)) rfl rfl
 ·simp only[iE,PRel]at E F
  obtain⟨_,_,H,_⟩:=E
  exact D _ _ H F (J _ _ (by simp) (by simp)) rfl rfl
 ·simp only[iE]at E F
  exact D _ _ E.2 F (J _ _ (by simp) (by simp)) rfl rfl
 ·simp only[iE]at E F
  exact D _ _ E F (J _ _ (by simp) (by simp)) rfl rfl
 ·simp only[iE,PRel]at E F
  obtain⟨_,_,_,H,_⟩:=E
  exact D _ _ H F (J _ _ (by simp) (by simp)) rfl rfl
 ·simp only[iE]at E F
  exact D _ _ E.2 F (J _ _ (by simp) (by simp)) rfl rfl
 ·cases K
end
theorem Ow{P:Program}{β:jf}{G:Sp→Nat→Nat}{w:World}{M:iP}{t:TypeId}{c:CK}{F:TypeDesc}{k x:T}{kv H:Value}{b:Bool}(I:xX P t=some c)(r:P.underlying t=some F)(D:iE β G w M k kv)(E:iE β G w M x H)(h:my c k x=some b):
  Instr.sameNow F kv H=some b:=by
 have Ou:=uW I
 unfold my at h
 split at h
 ·simp at h;subst h
  rw[D.bool,E.bool]
  simp only at Ou
  rw[r]at Ou;simp at Ou;subst Ou
  rfl
 ·split at h
  ·rename_i e;subst e
   simp at h;subst h
   obtain⟨N,Ou⟩:=Ou
   rw[r]at Ou;simp at Ou;subst Ou
   rw[D.int,E.int];simp[Instr.sameNow]
  ·cases h
 ·simp at h;subst h
  simp only at Ou
  rw[r]at Ou;simp at Ou;subst Ou
  obtain⟨O,J,rfl⟩:=D.str
  obtain⟨U,K,rfl⟩:=E.str
  rw[J,K]
  simp[Instr.sameNow,beq_toListBytes,lj,nV]
 ·cases h
def Found(E:List MapEntry)(off:Nat)(r:Option Nat)(D:Option (Nat×Value)):Prop:=
 match r with
 |none=>D=none
 |some i=> ∃e,E[i]? =some e∧D=some (off+i,e.val)
theorem EW{P:Program}{β:jf}{G:Sp→Nat→Nat}{w:World}{M:iP}{t:TypeId}{c:CK}{J:TypeDesc}{k:T}{kv:Value}(K:xX P t=some c)(N:P.underlying t=some J)(O:iE β G w M k kv):
  ∀(F:List MapEntry) (ks:List T) (off:Nat) (r:Option Nat),PList w M ks (F.map (·.key))→oz (.one c) k ks=some r→ ∃D,Instr.findNow J kv F off=some D∧Found F off r D
 | [],ks,off,r,H,E=>by
   cases ks with
   |nil=>simp[oz]at E;subst E;exact⟨none,rfl,rfl⟩
   |cons x xs=>simp[PList]at H
 |e::F,ks,off,r,H,E=>by
  cases ks with
  |nil=>simp[PList]at H
  |cons x xs=>
   simp only[List.map_cons,PList,List.cons.injEq]at H
   obtain⟨u,us,⟨rfl,rfl⟩,W,X⟩:=H
   simp only[oz,xW]at E
   cases I:my c k x with
   |none=>simp[I]at E
   |some b=>
    have hs:=Ow K N O (PRel.toV β G _ _ W) I
    cases b with
    |true=>
     simp[I]at E;subst E
     exact⟨some (off,e.val),by simp[Instr.findNow,hs],e,rfl,rfl⟩
    |false=>
     simp only[I,Option.map_eq_some_iff]at E
     obtain⟨U,Y,rfl⟩:=E
     obtain⟨D,Z,V⟩:=EW K N O F xs (off+1) U X Y
     refine⟨D,by simp[Instr.findNow,hs,Z], ?_⟩
     cases U with
     |none=>exact V
     |some i=>
      obtain⟨e',a1,a2⟩:=V
      exact⟨e',by simpa using a1,by rw[a2];simp;omega⟩
theorem yl{P:Program}{β:jf}{G:Sp→Nat→Nat}{w:World}{M:iP}{t:TypeId}{J:EK}{k:T}{kv:Value}(K:EM P t=some J)(N:iE β G w M k kv):
  ∀(F:List MapEntry) (ks:List T) (off:Nat) (r:Option Nat),PList w M ks (F.map (·.key))→oz J k ks=some r→ ∃D,(Instr.findAsking t kv F off).run P w= .ok D w∧Found F off r D
 | [],ks,off,r,H,E=>by
   cases ks with
   |nil=>simp[oz]at E;subst E;exact⟨none,by simp[Instr.findAsking],rfl⟩
   |cons x xs=>simp[PList]at H
 |e::F,ks,off,r,H,E=>by
  cases ks with
  |nil=>simp[PList]at H
  |cons x xs=>
   simp only[List.map_cons,PList,List.cons.injEq]at H
   obtain⟨u,us,⟨rfl,rfl⟩,V,W⟩:=H
   simp only[oz]at E
   cases I:xW J k x with
   |none=>simp[I]at E
   |some b=>
    have hs:=QA (P:=P) K N (PRel.toV β G _ _ V) I
    cases b with
    |true=>
     simp[I]at E;subst E
     exact⟨some (off,e.val),by simp[Instr.findAsking,hs],e,rfl,rfl⟩
    |false=>
     simp only[I,Option.map_eq_some_iff]at E
     obtain⟨O,X,rfl⟩:=E
     obtain⟨D,Y,U⟩:=yl K N F xs (off+1) O W X
     refine⟨D,by simp[Instr.findAsking,hs,Y], ?_⟩
     cases O with
     |none=>exact U
     |some i=>
      obtain⟨Z,a1,a2⟩:=U
      exact⟨Z,by simpa using a1,by rw[a2];simp;omega⟩
theorem IQ{P:Program}{t:TypeId}{r:EK}(h:keyOf P t=some r):EM P t=some r∧((∃c,r= .one c)∨ ∃ks,r= .flat ks):=by
 grind [keyOf]
theorem XA{P:Program}{t:TypeId}{ks:List CK}(h:keyOf P t=some (.flat ks)): ∃r,P.underlying t=some (.struct r)∧po P 0 r.toList=some ks:=by
 have E:=(IQ h).1
 unfold keyOf at h
 rw[E]at h
 obtain⟨_,⟨r,D,_,F⟩|⟨n,e,c,D,_⟩⟩:=rR E
 ·exact⟨r,D,F⟩
 ·simp[D]at h
theorem uX{P:Program}{β:jf}{G:Sp→Nat→Nat}{w:World}{M:iP}{t:TypeId}{N:EK}{k:T}{kv:Value}(O:keyOf P t=some N)(U:iE β G w M k kv)(E:List MapEntry)(ks:List T)(r:Option Nat)(J:PList w M ks (E.map (·.key)))
  (I:oz N k ks=some r): ∃D,(Instr.findKey t kv E).run P w= .ok D w∧Found E 0 r D:=by
 obtain⟨V,Z⟩:=IQ O
 unfold Instr.findKey
 rcases Z with⟨c,rfl⟩|⟨ck,rfl⟩
 ·have F:=rR V
  simp only at F
  have: ∃W,P.underlying t=some W:=by
   have:=uW F
   grind
  obtain⟨W,X⟩:=this
  obtain⟨D,K,H⟩:=EW F X U E ks 0 r J I
  exact⟨D,by simp[run_underlying X,K],H⟩
 ·obtain⟨fs,Y,_⟩:=XA O
  obtain⟨D,K,H⟩:=yl (P:=P) V U E ks 0 r J I
  cases E with
  |nil=>
   refine⟨D, ?_,H⟩
   have:D=none:=by
    cases ks with
    |nil=>simp[oz]at I;subst I;exact H
    |cons x xs=>simp[PList]at J
   subst this
   simp[run_underlying Y,Instr.findNow]
  |cons e E=>
   refine⟨D, ?_,H⟩
   have:Instr.sameNow (.struct fs) kv e.key=none:=by unfold Instr.sameNow;split <;> simp_all
   simp[run_underlying Y,Instr.findNow,this,K]
theorem zV{P:Program}{w:World}{t:TypeId}{c:CK}(r:xX P t=some c)(n:Nat)(D:Bool)(v:Value):(Instr.checkKey D (n+1) t v).run P w= .ok () w:=by
 have:=uW r
 cases c
 ·obtain⟨E,e⟩:=this;simp[Instr.checkKey,run_underlying e]
 ·simp[Instr.checkKey,run_underlying this]
 ·simp[Instr.checkKey,run_underlying this]
theorem vS{P:Program}{w:World}(n:Nat)(F:Bool)(cs:Array Value): ∀(D:List Field) (i:Nat) (ks:List CK),po P i D=some ks→i+ks.length≤cs.size→
  (forIn D PUnit.unit (fun f (_:PUnit)=>
    if f.name≠ "_" then(do
     let p ←Go.part f.type cs f.offset
     Instr.checkKey F (n+1) f.type p
     pure (ForInStep.yield PUnit.unit))else pure (ForInStep.yield PUnit.unit):Field→PUnit→Sem (ForInStep PUnit))).run P w= .ok PUnit.unit w
 | [],i,ks,r,hs=>by simp
 |f::D,i,ks,r,hs=>by
  simp only[po]at r
  split at r
  ·rename_i H
   simp at H
   obtain⟨⟨N,O⟩,U⟩:=H
   split at r
   ·rename_i k E I J
    simp at r;subst r
    have K:we P f.type=some false:=by
     have:=uW I
     grind [we]
    have hi:i<cs.size:=by simp at hs;omega
    have V:(Go.part f.type cs f.offset).run P w= .ok cs[i] w:=by
     simp_all[Go.part,Sem.run_bind,rQ,Result.andThen_ok,Array.getElem?_eq_getElem]
    have ih:=vS (P:=P) (w:=w) n F cs D (i+1) E J (by simp at hs;omega)
    grind [Sem.run_bind,Result.andThen_ok,zV,Sem.run_pure]
   ·cases r
  ·cases r
theorem CB{P:Program}{β:jf}{G:Sp→Nat→Nat}{w:World}{M:iP}{t:TypeId}{E:EK}{k:T}{kv:Value}(F:keyOf P t=some E)(H:iE β G w M k kv)(QC:isKey E k=true)(n:Nat)(D:Bool):
  (Instr.checkKey D (n+2) t kv).run P w= .ok () w:=by
 obtain⟨J,K⟩:=IQ F
 rcases K with⟨c,rfl⟩|⟨ck,rfl⟩
 ·exact zV (rR J) (n+1) D kv
 ·obtain⟨N,O,U⟩:=XA F
  unfold isKey at QC
  split at QC
  ·simp_all
  ·rename_i ks xs e
   simp at e;subst e
   simp only[iE]at H
   obtain⟨r,rfl,V,_⟩:=H
   have I:ck.length≤r.size:=by
    have W:=iF.length _ _ V
    have: ∀(ks:List CK) (xs:List T),rv ks xs=true→ks.length=xs.length:=by
     intro ks
     induction ks with
     |nil=>intro xs h;cases xs <;> simp[rv]at h ⊢
     |cons k ks ih=>intro xs h;cases xs <;> simp[rv]at h ⊢; exact ih _ h.2
    grind
   have:=vS (P:=P) (w:=w) n D r N.toList 0 ck U (by omega)
   rw[Instr.checkKey]
   simp only[Sem.run_bind,run_underlying O,Result.andThen_ok]
   simp_all
  ·cases QC
end Go.Ev
