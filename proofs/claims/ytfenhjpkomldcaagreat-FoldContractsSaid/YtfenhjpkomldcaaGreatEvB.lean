/- A tree evaluator over the model, proved against it (part B): where it answers, the call returns that answer. Conditions: none beyond its theorems' own. -/
import Derived.Test.YtfenhjpkomldcaaGreatEvA
import Derived.Laws.Cells
import Derived.Laws.CopyRow
import Derived.Laws.AppendOwn
import Derived.Laws.Entries
import Derived.Laws.StructEq
import Derived.Laws.Cover3
set_option linter.unusedSimpArgs false
set_option linter.unusedVariables false
namespace Go.Ev
open Go
theorem pq{w:World}{M:aM}{v:Value}{t:T}(h:oD v=some t):PRel w M t v∧single t=true:=by
 unfold oD at h
 split at h
 case h_8 f a c=>
  split at h
  ·rename_i h1 h2
   simp at h;subst h
   simp only[PRel,single]
   exact⟨⟨a,c,rfl,by rw[h1];simp[PList],by rw[h2];simp[PList]⟩,trivial⟩
  ·simp at h
 all_goals (simp at h)
 all_goals (subst h;simp[PRel,PList,single])
theorem kB{w:World}{M:aM}: ∀{vs:List Value} {ts:List T},iP vs=some ts→PList w M ts vs∧ts.all single=true
 | [],ts,h=>by simp[iP]at h;subst h;simp[PList]
 |v::vs,ts,h=>by
  simp only[iP]at h
  split at h
  ·rename_i t uA h1 h2
   simp at h;subst h
   have a:=pq (w:=w) (M:=M) h1
   have b:=kB (w:=w) (M:=M) h2
   simp only[PList,List.all_cons,Bool.and_eq_true]
   exact⟨⟨v,vs,rfl,a.1,b.1⟩,a.2,b.2⟩
  ·simp at h
theorem kC{w:World}{M:aM}{v:Value}{t:T}(h:uv v=some t):PRel w M t v:=by
 unfold uv at h
 split at h
 ·rename_i cs
  simp only[Option.map_eq_some_iff]at h
  obtain⟨ts,h1,rfl⟩:=h
  have:=kB (w:=w) (M:=M) h1
  simp only[PRel];exact⟨cs,rfl,this.1,this.2⟩
 ·rename_i cs
  simp only[Option.map_eq_some_iff]at h
  obtain⟨ts,h1,rfl⟩:=h
  have:=kB (w:=w) (M:=M) h1
  simp only[PRel];exact⟨cs,rfl,this.1⟩
 ·exact(pq h).1
def jS(β:bj)(G:Sp→Nat→Nat)(w:World)(M:aM)(ρ:bq→T)(e:Operand→Value):Prop:= ∀x y,dY x=some y→aw β G w M (ρ y) (e x)
theorem IX{st:St}{a:Act}{w:World}{β:bj}{M:aM}{n:Nat}(h:lO st a w β M n):jS β st.gens w M st.rho a.eval:=by
 intro x y pr
 cases x with
 |tmp t=>simp[dY]at pr;subst pr;exact h.slot t
 |const v=>
  simp only[dY,Option.map_eq_some_iff]at pr
  obtain⟨t,h1,rfl⟩:=pr
  exact PRel.toV _ _ _ _ (kC h1)
 |global g=>simp[dY]at pr
 |func f=>simp[dY]at pr;subst pr;simp[St.rho,Act.eval,aw,aA]
def dG(P:Program)(B:eu)(st:St)(a:Act)(w:World)(β:bj)(M:aM)(o:Oper)(v:T)(ups:List Up):Prop:=
 ∃nx cv w' bB M',(execOp a.eval o).run P w= .ok nx w'∧(nx= .value cv∨(nx= .skip∧cv=undef))∧bz B (st.ups ups) w' bB M'∧Tr st w β M (st.ups ups) w' bB M'∧w.heap.size≤w'.heap.size∧aw bB (st.ups ups).gens w' M' v cv
section
variable{P:Program}{B:eu}{st:St}{a:Act}{w:World}{β:bj}{M:aM}{o:Oper}{v:T}{ups:List Up}
theorem bk(h:bz B st w β M){cv:Value}(hr:(execOp a.eval o).run P w= .ok (.value cv) w)(hv:aw β st.gens w M v cv):dG P B st a w β M o v []:=
 ⟨_,cv,w,β,M,hr,.inl rfl,h,Tr.refl _ _ _ _,Nat.le_refl _,hv⟩
variable(cI:jS β st.gens w M st.rho a.eval)(h:bz B st w β M)
include cI h
theorem Q9{x:Operand}{y:bq}(ho:o.op= .move x∨o.op= .assign x)(hx:dY x=some y):dG P B st a w β M o (st.rho y) []:=
 bk h (cv:=a.eval x) (by rcases ho with ho|ho <;> simp[execOp,ho]) (cI x y hx)
theorem Ed{c x y:Operand}{c' x' y':bq}(ho:o.op= .pick c x y)(h1:dY c=some c')(h2:dY x=some x')(h3:dY y=some y'){bb:Bool}(hb:st.rho c'= .b bb):
  dG P B st a w β M o (st.rho (if bb then x' else y')) []:=by
 have hc:=cI c c' h1
 rw[hb]at hc;simp only[aw]at hc
 cases bb
 ·exact bk h (cv:=a.eval y) (by simp[execOp,ho,hc,asBool]) (cI y y' h3)
 ·exact bk h (cv:=a.eval x) (by simp[execOp,ho,hc,asBool]) (cI x x' h2)
theorem Sy{d nx:Nat}{x:Operand}{y:bq}(ho:o.op= .nilCheck x)(hx:dY x=some y){v:T}(hq:(bT d st.rho (.nck y)).run st.get nx=some (.val v ups)):dG P B st a w β M o v ups:=by
 have hv:=cI x y hx
 simp only[bT]at hq
 split at hq <;> simp[Q.run]at hq <;> obtain⟨rfl,rfl⟩:=hq <;> rename_i e
 ·rw[e]at hv
  refine bk h (cv:=a.eval x) ?_ hv
  simp only[aw,PRel]at hv
  obtain⟨blk,off,h1,_⟩:=hv
  simp[execOp,ho,h1]
 ·rw[e]at hv
  refine bk h (cv:=a.eval x) ?_ hv
  simp only[aw]at hv
  simp[execOp,ho,hv.2]
 ·rw[e]at hv
  refine bk h (cv:=a.eval x) ?_ hv
  simp only[aw]at hv
  obtain⟨fa,fc,h1,_⟩:=hv
  simp[execOp,ho,h1]
end
end Go.Ev
namespace Go.Ev
open Go
theorem Ee(k:IntKind)(n:Int):wr k n=k.wrap n:=by
 unfold wr
 split
 ·rename_i h
  cases k <;> simp only[lo,hi]at h <;> simp[IntKind.wrap,IntKind.bits,IntKind.signed] <;> omega
 ·rfl
theorem di(x:ByteArray):cR x=x.toList.map UInt8.toNat:=by rw[ByteArray.toList_eq];rfl
theorem fy: ∀(a b:List UInt8),(a.map UInt8.toNat==b.map UInt8.toNat)=(a==b)
 | [],[]=>rfl
 | [],_::_=>rfl
 |_::_,[]=>rfl
 |x::xs,y::ys=>by
  simp only[List.map_cons,List.cons_beq_cons,fy xs ys]
  congr 1
  rw[Bool.eq_iff_iff];simp[UInt8.toNat_inj]
theorem Ak: ∀(a b:List UInt8),sv (a.map UInt8.toNat) (b.map UInt8.toNat)=Op.bytesLess a b
 | [],[]=>rfl
 | [],_::_=>rfl
 |_::_,[]=>rfl
 |x::xs,y::ys=>by
  simp only[List.map_cons,sv,Op.bytesLess,Ak xs ys]
  have h1:decide (x.toNat<y.toNat)=decide (x<y):=by rw[Bool.eq_iff_iff];simp[UInt8.lt_iff_toNat_lt]
  have h2:(x.toNat==y.toNat)=(x==y):=by rw[Bool.eq_iff_iff];simp[UInt8.toNat_inj]
  rw[h1,h2]
theorem eU(x:ByteArray):(cR x).length=x.size:=by
 unfold cR;rw[List.length_map,Array.length_toList];rfl
theorem wg(x y:ByteArray):cR (x++y)=cR x++cR y:=by simp[cR,ByteArray.data_append]
section
variable{P:Program}{B:eu}{st:St}{a:Act}{w:World}{β:bj}{M:aM}{o:Oper}{v:T}{ups:List Up}
theorem aw.int{k:IntKind}{n:Int}{cv:Value}{G:Sp→Nat→Nat}(h:aw β G w M (.i k n) cv):cv= .int k n:=by simpa only[aw]using h
theorem aw.str{l:List Nat}{cv:Value}{G:Sp→Nat→Nat}(h:aw β G w M (.s l) cv): ∃bs,cv= .string bs∧cR bs=l:=by simpa only[aw]using h
theorem aw.bool{x:Bool}{cv:Value}{G:Sp→Nat→Nat}(h:aw β G w M (.b x) cv):cv= .bool x:=by simpa only[aw]using h
theorem Mk{op:BinOp}{k:IntKind}{x y:Int}{t:TypeId}{r:T}(h:mM op k x y=some r)(hs:op≠ .shl∧op≠ .shr): ∃cv,(binOp op t (.int k x) (.int k y)).run P w= .ok cv w∧ ∀G,aw β G w M r cv:=by
 cases op <;> simp only[mM,Option.some.injEq]at h <;> try (subst h)
 all_goals first
  |exact absurd rfl hs.1
  |exact absurd rfl hs.2
  |skip
 case quo=>
  split at h
  ·cases h
  ·rename_i hy
   simp at h;subst h
   exact⟨_,by simp[binOp,Op.intDiv,hy];rfl,fun G=>by simp[aw,Ee]⟩
 case rem=>
  split at h
  ·cases h
  ·rename_i hy
   simp at h;subst h
   exact⟨_,by simp[binOp,Op.intDiv,hy];rfl,fun G=>by simp[aw]⟩
 all_goals first
  |exact⟨_,by simp[binOp,Op.intArith,Op.intBits,Op.intCmp];rfl,fun G=>by simp[aw,Ee]⟩
  |cases h
theorem wU{op:BinOp}{k k':IntKind}{x y:Int}{t:TypeId}{r:T}(h:uq op k x y=some r): ∃cv,(binOp op t (.int k x) (.int k' y)).run P w= .ok cv w∧ ∀G,aw β G w M r cv:=by
 unfold uq at h
 split at h
 ·cases h
 ·rename_i hy
  cases op <;> simp at h <;> subst h
  ·exact⟨_,by simp[binOp,Op.shift,hy];rfl,fun G=>by simp[aw]⟩
  ·exact⟨_,by simp[binOp,Op.shift,hy];rfl,fun G=>by simp[aw]⟩
theorem Ml{op:BinOp}{x y:ByteArray}{t:TypeId}{r:T}(h:IU op (cR x) (cR y)=some r): ∃cv,(binOp op t (.string x) (.string y)).run P w= .ok cv w∧ ∀G,aw β G w M r cv:=by
 have e1:(cR x==cR y)=(x.toList==y.toList):=by rw[di,di,fy]
 have e2:sv (cR x) (cR y)=Op.bytesLess x.toList y.toList:=by rw[di,di,Ak]
 have e3:(cR x != cR y)= !(x.toList==y.toList):=by rw[bne,e1]
 cases op <;> simp only[IU]at h <;> try (cases h;done)
 case add=>
  split at h
  ·rename_i hl
   simp at h;subst h
   rw[eU,eU]at hl
   have: ¬(((x.size+y.size:Nat):Int)>IntKind.i64.max):=by simp[IntKind.max,IntKind.signed,IntKind.bits];omega
   exact⟨.string (x++y),by simp only[binOp,Op.stringOp,this,if_false];rfl,fun G=>by simp only[aw];exact⟨_,rfl,wg x y⟩⟩
  ·cases h
 all_goals
  simp only[Option.some.injEq]at h
  subst h
  refine⟨_,by simp only[binOp,Op.stringOp];rfl,fun G=> ?_⟩
  simp only[aw,e1,e2,e3]
variable(cI:jS β st.gens w M st.rho a.eval)(h:bz B st w β M)
include cI h
theorem Sz{op:BinOp}{t t':TypeId}{x y:Operand}{x' y':bq}(ho:o.op= .binOp op t x y t')(hx:dY x=some x')(hy:dY y=some y')(hq:Ev.bin op (st.rho x') (st.rho y')=some v):dG P B st a w β M o v []:=by
 have vx:=cI x x' hx
 have vy:=cI y y' hy
 generalize st.rho x'=tx at*
 generalize st.rho y'=ty at*
 have Cn: ∀k k' m n,(eqGuard op t x y (.int k m) (.int k' n)).run P w= .ok () w:=by intro k k' m n;cases op <;> simp[eqGuard]
 have SA: ∀m n,(eqGuard op t x y (.string m) (.string n)).run P w= .ok () w:=by intro m n;cases op <;> simp[eqGuard]
 unfold Ev.bin at hq
 split at hq
 ·rename_i k1 a1 k2 b1
  have e1:=vx.int;have e2:=vy.int
  obtain⟨cv,r1,r2⟩:=wU (P:=P) (w:=w) (β:=β) (M:=M) (t:=t) (k':=k2) hq
  exact bk h (cv:=cv) (by simp[execOp,ho,e1,e2,Cn,r1]) (r2 _)
 ·rename_i k1 a1 k2 b1
  have e1:=vx.int;have e2:=vy.int
  obtain⟨cv,r1,r2⟩:=wU (P:=P) (w:=w) (β:=β) (M:=M) (t:=t) (k':=k2) hq
  exact bk h (cv:=cv) (by simp[execOp,ho,e1,e2,Cn,r1]) (r2 _)
 ·rename_i wV B1
  split at hq
  ·rename_i hk
   subst hk
   have e1:=vx.int;have e2:=vy.int
   obtain⟨cv,r1,r2⟩:=Mk (P:=P) (w:=w) (β:=β) (M:=M) (t:=t) hq ⟨fun e=>wV e,fun e=>B1 e⟩
   exact bk h (cv:=cv) (by simp[execOp,ho,e1,e2,Cn,r1]) (r2 _)
  ·cases hq
 ·obtain⟨bx,e1,rfl⟩:=vx.str
  obtain⟨bY,e2,rfl⟩:=vy.str
  obtain⟨cv,r1,r2⟩:=Ml (P:=P) (w:=w) (β:=β) (M:=M) (t:=t) hq
  exact bk h (cv:=cv) (by simp[execOp,ho,e1,e2,SA,r1]) (r2 _)
 ·cases hq
theorem WR{op:UnOp}{t:TypeId}{x:Operand}{x':bq}(ho:o.op= .unOp op t x)(hx:dY x=some x')(hq:Ev.un op (st.rho x')=some v):dG P B st a w β M o v []:=by
 have vx:=cI x x' hx
 generalize st.rho x'=tx at*
 unfold Ev.un at hq
 split at hq
 ·simp at hq;subst hq
  exact bk h (cv:=_) (by simp[execOp,ho,vx.int,Op.unary,Op.intArith];rfl) (by simp[aw,Ee])
 ·simp at hq;subst hq
  exact bk h (cv:=_) (by simp[execOp,ho,vx.bool,Op.unary];rfl) (by simp only[aw])
 ·rename_i k n
  simp only[mM,Option.some.injEq]at hq;subst hq
  exact bk h (cv:= .int k (k.wrap (BitVec.ofInt k.bits (if k.signed then-1 else k.max) ^^^ BitVec.ofInt k.bits n).toNat)) (by simp only[execOp,ho,vx.int,Op.unary,Op.intBits];rfl) (by simp only[aw])
 ·cases hq
theorem SC{s t:TypeId}{k:IntKind}{x:Operand}{x':bq}(ho:o.op= .convert s t x)(hx:dY x=some x')(hs: ∃k',P.underlying s=some (.int k'))(ht:P.underlying t=some (.int k)){k':IntKind}{n:Int}(hv:st.rho x'= .i k' n):
  dG P B st a w β M o (.i k (wr k n)) []:=by
 have vx:=cI x x' hx
 rw[hv]at vx
 obtain⟨ks,hs⟩:=hs
 exact bk h (cv:= .int k (k.wrap n)) (by simp[execOp,ho,vx.int,convert,run_underlying hs,run_underlying ht,Conv.intToInt]) (by simp only[aw,Ee])
omit h in
theorem oG: ∀{xs:List Operand} {ys:List bq},rJ xs=some ys→aA β st.gens w M (ys.map st.rho) (xs.map a.eval)
 | [],ys,h=>by simp[rJ]at h;subst h;simp[aA]
 |x::xs,ys,h=>by
  simp only[rJ]at h
  split at h
  ·rename_i y ys' h1 h2
   simp at h;subst h
   simp only[List.map_cons,aA]
   exact⟨_,_,rfl,cI x y h1,oG h2⟩
  ·cases h
theorem Mm{f:FuncId}{first cap:Array Operand}{fs cs:List bq}(ho:o.op= .makeFunc (.func f) first cap)(h1:rJ first.toList=some fs)(h2:rJ cap.toList=some cs):
  dG P B st a w β M o (.fn f (fs.map st.rho) (cs.map st.rho)) []:=
 bk h (cv:= .func (.func f) (first.map a.eval) (cap.map a.eval)) (by simp[execOp,ho,Instr.makeFunc]) (by
  simp only[aw]
  exact⟨_,_,rfl,by simpa using oG cI h1,by simpa using oG cI h2⟩)
theorem SD{x:Operand}{x':bq}{j:Nat}(ho:o.op= .extract x j)(hx:dY x=some x'){vs:List T}(hv:st.rho x'= .tup vs)(hj:vs[j]? =some v):dG P B st a w β M o v []:=by
 have vx:=cI x x' hx
 rw[hv]at vx
 simp only[aw]at vx
 obtain⟨arr,e,hl⟩:=vx
 obtain⟨cv,c1,c2⟩:=hl.get hj
 have WS:arr[j]? =some cv:=by simpa using c1
 exact bk h (cv:=cv) (by simp[execOp,ho,e,Instr.extract,WS]) c2
end
end Go.Ev
namespace Go.Ev
open Go
theorem fM{P:Program}{t:TypeId}{n:Nat}(h:dS P t=some n)(w:World):(sizeOf t).run P w= .ok n w:=by
 unfold dS at h
 cases hi:P.info? t with
 |none=>simp[hi]at h
 |some i=>simp[hi]at h;simp[sizeOf,typeInfo,hi,h]
theorem nU{P:Program}{t:TypeId}{ag:Bool}(h:oZ P t=some ag)(w:World):(isAgg t).run P w= .ok ag w:=by
 unfold oZ at h
 cases hu:P.underlying t with
 |none=>simp[hu]at h
 |some d=>
  simp only[hu,Option.map_some,Option.some.injEq]at h
  unfold isAgg
  simp only[Sem.run_bind,run_underlying hu,Result.andThen_ok]
  cases d <;> simp at h <;> subst h <;> rfl
theorem Al{P:Program}{β:bj}{G:Sp→Nat→Nat}{w:World}{M:aM}{t:TypeId}{off n:Nat}{ag:Bool}{cs:List T}{arr:Array Value}{v:T}(hn:dS P t=some n)(ha:oZ P t=some ag)
  (hl:aA β G w M cs arr.toList) (hs:cs.all single=true) (h:Ev.part cs off n ag=some v): ∃cv,(Go.part t arr off).run P w= .ok cv w∧aw β G w M v cv:=by
 unfold Ev.part at h
 unfold Go.part
 simp only[Sem.run_bind,nU ha,Result.andThen_ok]
 cases ag with
 |true=>
  simp only[if_true]at h ⊢
  split at h
  ·rename_i hle
   simp at h;subst h
   refine⟨.agg (arr.extract off (off+n)),by simp[fM hn], ?_⟩
   simp only[aw]
   refine⟨_,rfl, ?_,gj hs _ _⟩
   have:=aA.take n (aA.drop off hl)
   have e:(arr.extract off (off+n)).toList=(arr.toList.drop off).take n:=by
    rw[Array.toList_extract,List.extract_eq_take_drop];congr 1;omega
   rw[e];exact this
  ·cases h
 |false=>
  simp only[Bool.false_eq_true,if_false]at h ⊢
  obtain⟨cv,c1,c2⟩:=hl.get h
  have WS:arr[off]? =some cv:=by simpa using c1
  exact⟨cv,by simp[WS],c2⟩
theorem eN(b o n:Nat):(⟨b,o,none⟩:Addr).add n=⟨b,o+n,none⟩:=by unfold Addr.add;split <;> simp_all
theorem aY.drop{w:World}{M:aM}{blk:Nat}: ∀{off:Nat} {ts:List T} (n:Nat),aY w M blk off ts→n≤ts.length→aY w M blk (off+n) (ts.drop n)
 |off,ts,0,h,_=>by simpa using h
 |off,[],n+1,h,hl=>by simp at hl
 |off,c::cs,n+1,h,hl=>by
  simp only[aY]at h
  have:=aY.drop n h.2 (by simpa using hl)
  rw[show off+(n+1)=off+1+n by omega]
  simpa using this
theorem aY.take{w:World}{M:aM}{blk:Nat}: ∀{off:Nat} {ts:List T} (n:Nat),aY w M blk off ts→aY w M blk off (ts.take n)
 |off,ts,0,h=>by simp[aY]
 |off,[],n+1,h=>by simp[aY]
 |off,c::cs,n+1,h=>by
  simp only[aY]at h
  simp only[List.take_succ_cons,aY]
  exact⟨h.1,aY.take n h.2⟩
theorem aY.load{P:Program}{w:World}{M:aM}{blk:Nat}: ∀{off:Nat} {ts:List T},aY w M blk off ts→ ∃vs:List Value,vs.length=ts.length∧(∀j v,vs[j]? =some v→w.cell? ⟨blk,off+j,none⟩=some v)∧PList w M ts vs∧ts.all single=true
 |off,[],h=>⟨[],rfl,by simp,by simp[PList],rfl⟩
 |off,c::cs,h=>by
  simp only[aY]at h
  obtain⟨⟨v,h1,_,h3,h4⟩,h2⟩:=h
  obtain⟨vs,e1,e2,e3,e4⟩:=aY.load (P:=P) h2
  refine⟨v::vs,by simp[e1],fun j u hu=> ?_, ?_,by simp[h4,e4]⟩
  ·cases j with
   |zero=>simp at hu;subst hu;exact h1
   |succ j=>rw[show off+(j+1)=off+1+j by omega];exact e2 j u (by simpa using hu)
  ·simp only[PList];exact⟨v,vs,rfl,h3,e3⟩
theorem Am{P:Program}{β:bj}{G:Sp→Nat→Nat}{w:World}{M:aM}{t:TypeId}{n:Nat}{ag:Bool}{blk off o:Nat}{cs:List T}{vs:List Value}{v:T}(hn:dS P t=some n)(ha:oZ P t=some ag)
  (hc: ∀j u,vs[j]? =some u→w.cell? ⟨blk,off+j,none⟩=some u) (hl:aA β G w M cs vs) (hs:cs.all single=true) (h:Ev.part cs o n ag=some v):
  ∃cv,(loadVar t ⟨blk,off+o,none⟩).run P w= .ok cv w∧aw β G w M v cv:=by
 unfold Ev.part at h
 unfold loadVar
 simp only[Sem.run_bind,nU ha,Result.andThen_ok]
 cases ag with
 |true=>
  simp only[if_true]at h ⊢
  split at h
  ·rename_i hle
   simp at h;subst h
   have hlen:=aA.length _ _ hl
   have mh:((vs.drop o).take n).length=n:=by simp;omega
   have:=run_loadCells_list (P:=P) w ⟨blk,off+o,none⟩ ((vs.drop o).take n) (fun j u hu=>by
    rw[eN]
    rw[List.getElem?_take]at hu
    split at hu
    ·rw[List.getElem?_drop]at hu
     rw[Nat.add_assoc];exact hc _ _ hu
    ·cases hu)
   rw[mh]at this
   refine⟨.agg ((vs.drop o).take n).toArray,by simp[fM hn,this], ?_⟩
   simp only[aw]
   exact⟨_,rfl,by simpa using aA.take n (aA.drop o hl),gj hs _ _⟩
  ·cases h
 |false=>
  simp only[Bool.false_eq_true,if_false]at h ⊢
  obtain⟨cv,c1,c2⟩:=hl.get h
  exact⟨cv,by simp[Go.load,Sem.run,hc _ _ c1],c2⟩
section
variable{P:Program}{B:eu}{st:St}{a:Act}{w:World}{β:bj}{M:aM}{o:Oper}{v:T}{ups:List Up}
variable(cI:jS β st.gens w M st.rho a.eval)(h:bz B st w β M)
include h
theorem An{t:TypeId}{n nx:Nat}{ag:Bool}{x:T}{cx:Value}(hn:dS P t=some n)(ha:oZ P t=some ag)(vx:aw β st.gens w M x cx)(hq:(x8 x n ag).run st.get nx=some v):
  ∃ad cv,cx= .pointer (some ad)∧(loadVar t ad).run P w= .ok cv w∧aw β st.gens w M v cv:=by
 unfold x8 at hq
 split at hq
 ·rename_i cs
  simp only[aw,PRel]at vx
  obtain⟨blk,off,rfl,hc⟩:=vx
  obtain⟨vs,_,e2,e3,e4⟩:=aY.load (P:=P) hc
  cases hp:Ev.part cs 0 n ag with
  |none=>simp[hp,Q.of,Q.run]at hq
  |some v'=>
   simp[hp,Q.of,Q.run]at hq;subst hq
   obtain⟨cv,r1,r2⟩:=Am (P:=P) (β:=β) (G:=st.gens) (M:=M) hn ha e2 (PList.toV _ _ _ _ e3) e4 hp
   exact⟨_,cv,rfl,by simpa using r1,r2⟩
 ·rename_i sp k g off
  simp only[Q.run]at hq
  split at hq
  ·rename_i hg
   have ho:=h.obj sp k
   generalize he:st.get sp k=e at*
   obtain⟨ge,ob⟩:=e
   dsimp only at hg;subst hg
   cases ob with
   |none=>simp[Q.run]at hq
   |map _ _ _=>simp[Q.run]at hq
   |cells cs wm bx=>
    dsimp only at hq
    cases hp:Ev.part cs off n ag with
    |none=>simp[hp,Q.of,Q.run]at hq
    |some v'=>
     simp[hp,Q.of,Q.run]at hq;subst hq
     unfold dO at ho
     obtain⟨c,el,fz,h1,h2,h3,h4,h5,h6,h7⟩:=ho
     dsimp only at h1 h2 h3 h5
     have Ef:aA β st.gens w M cs ((c.toList.drop (β sp k ge).off).take cs.length):=by
      exact h5.toV
     simp only[aw]at vx
     obtain⟨_,rfl⟩:=vx
     have IW: ∀j u,((c.toList.drop (β sp k ge).off).take cs.length)[j]? =some u→w.cell? ⟨(β sp k ge).blk,(β sp k ge).off+j,none⟩=some u:=by
      intro j u hu
      rw[List.getElem?_take]at hu
      split at hu
      ·rw[List.getElem?_drop]at hu
       unfold World.cell?;rw[h1];simpa using hu
      ·cases hu
     obtain⟨cv,r1,r2⟩:=Am (P:=P) hn ha IW Ef h7.1 hp
     exact⟨_,cv,rfl,r1,r2⟩
  ·simp[Q.run]at hq
 ·simp[Q.run]at hq
include cI
theorem WT{d nx:Nat}{t:TypeId}{x:Operand}{x':bq}{n:Nat}{ag:Bool}(ho:o.op= .load t x)(hx:dY x=some x')(hn:dS P t=some n)(ha:oZ P t=some ag)
  (hq:(bT d st.rho (.ld x' n ag)).run st.get nx=some (.val v ups)):dG P B st a w β M o v ups:=by
 simp only[bT,Q.run_bind]at hq
 cases hl:(x8 (st.rho x') n ag).run st.get nx with
 |none=>simp[hl]at hq
 |some v'=>
  simp[hl,Q.run]at hq
  obtain⟨rfl,rfl⟩:=hq
  obtain⟨ad,cv,e,r1,r2⟩:=An (P:=P) h hn ha (cI x x' hx) hl
  exact bk h (cv:=cv) (by simp[execOp,ho,e,Instr.loadAt,Instr.sureAddr,r1]) r2
theorem WU{d nx:Nat}{s:TypeId}{x:Operand}{x':bq}{f n:Nat}{fs:Array Field}{fd:Field}(ho:o.op= .fieldAddr s x f)(hx:dY x=some x')(hs:P.underlying s=some (.struct fs))(hf:fs[f]? =some fd)(hn:dS P fd.type=some n)(h0:n≠0)
  (hq:(bT d st.rho (.fa x' fd.offset)).run st.get nx=some (.val v ups)):dG P B st a w β M o v ups:=by
 have vx:=cI x x' hx
 have run: ∀blk off,a.eval x= .pointer (some ⟨blk,off,none⟩)→(execOp a.eval o).run P w= .ok (.value (.pointer (some ⟨blk,off+fd.offset,none⟩))) w:=by
  intro blk off e
  simp[execOp,ho,e,Instr.fieldAt,run_underlying hs,hf,Instr.sureAddr,fieldPlace,fM hn,h0,eN]
 simp only[bT]at hq
 split at hq
 ·rename_i cs e
  split at hq
  ·rename_i hle
   simp[Q.run]at hq;obtain⟨rfl,rfl⟩:=hq
   rw[e]at vx
   simp only[aw,PRel]at vx
   obtain⟨blk,off,e1,hc⟩:=vx
   refine bk h (run blk off e1) ?_
   simp only[aw,PRel]
   exact⟨blk,_,rfl,aY.drop _ hc hle⟩
  ·simp[Q.run]at hq
 ·rename_i sp k g off e
  simp[Q.run]at hq;obtain⟨rfl,rfl⟩:=hq
  rw[e]at vx
  simp only[aw]at vx
  refine bk h (run _ _ vx.2) ?_
  simp only[aw]
  exact⟨vx.1,by rw[Nat.add_assoc]⟩
 ·simp[Q.run]at hq
theorem SE{d nx:Nat}{s:TypeId}{x:Operand}{x':bq}{f n:Nat}{ag:Bool}{fs:Array Field}{fd:Field}(ho:o.op= .field s x f)(hx:dY x=some x')(hs:P.underlying s=some (.struct fs))(hf:fs[f]? =some fd)(hn:dS P fd.type=some n)(ha:oZ P fd.type=some ag)
  (hq:(bT d st.rho (.fld x' fd.offset n ag)).run st.get nx=some (.val v ups)):dG P B st a w β M o v ups:=by
 have vx:=cI x x' hx
 simp only[bT]at hq
 split at hq
 ·rename_i cs e
  rw[e]at vx
  simp only[aw]at vx
  obtain⟨arr,e1,hl,wV⟩:=vx
  cases hp:Ev.part cs fd.offset n ag with
  |none=>simp[hp,Ev.val,Q.run]at hq
  |some v'=>
   simp[hp,Ev.val,Q.run]at hq;obtain⟨rfl,rfl⟩:=hq
   obtain⟨cv,r1,r2⟩:=Al (P:=P) hn ha hl wV hp
   exact bk h (cv:=cv) (by simp[execOp,ho,e1,Instr.field,run_underlying hs,hf,asAgg,r1]) r2
 ·simp[Q.run]at hq
theorem SF{d nx:Nat}{t e:TypeId}{x j:Operand}{x' j':bq}{len n:Nat}{ag:Bool}(ho:o.op= .index t x j)(hx:dY x=some x')(hj:dY j=some j')(ht:P.underlying t=some (.array len e))(hn:dS P e=some n)(ha:oZ P e=some ag)
  (hq:(bT d st.rho (.ixA x' j' len n ag)).run st.get nx=some (.val v ups)):dG P B st a w β M o v ups:=by
 have vx:=cI x x' hx
 have vj:=cI j j' hj
 simp only[bT]at hq
 split at hq
 ·rename_i jn cs e1 e2
  rw[e2]at vx
  simp only[aw]at vx
  obtain⟨arr,e3,hl,wV⟩:=vx
  split at hq
  ·rename_i eo
   cases hp:Ev.part cs (jn*n) n ag with
   |none=>simp[hp,Ev.val,Q.run]at hq
   |some v'=>
    simp[hp,Ev.val,Q.run]at hq;obtain⟨rfl,rfl⟩:=hq
    unfold asNat at e1
    split at e1
    ·rename_i k m em
     split at e1
     ·rename_i hm
      simp at e1;subst e1
      rw[em]at vj
      have ej:=vj.int
      obtain⟨cv,r1,r2⟩:=Al (P:=P) hn ha hl wV hp
      have:0≤m∧m<(len:Int):=by omega
      exact bk h (cv:=cv) (by simp[execOp,ho,e3,ej,Instr.index,run_underlying ht,asIntOf,this,fM hn,r1]) r2
     ·cases e1
    ·cases e1
  ·simp[Q.run]at hq
 ·simp[Q.run]at hq
omit h cI in
theorem gO{t:T}{n:Nat}(e:asNat t=some n): ∃k m,t= .i k m∧0≤m∧m.toNat=n:=by
 unfold asNat at e
 split at e
 ·rename_i k m
  split at e
  ·rename_i hm;simp at e;exact⟨k,m,rfl,hm,e⟩
  ·cases e
 ·cases e
theorem SG{d nx:Nat}{t:TypeId}{x j:Operand}{x' j':bq}(ho:o.op= .index t x j)(hx:dY x=some x')(hj:dY j=some j')(ht:P.underlying t=some .string)
  (hq:(bT d st.rho (.ixS x' j')).run st.get nx=some (.val v ups)):dG P B st a w β M o v ups:=by
 have vx:=cI x x' hx
 have vj:=cI j j' hj
 simp only[bT]at hq
 split at hq
 ·rename_i jn bs e1 e2
  rw[e2]at vx
  obtain⟨arr,e3,rfl⟩:=vx.str
  obtain⟨k,m,em,hm,rfl⟩:=gO e1
  rw[em]at vj
  have ej:=vj.int
  split at hq
  ·rename_i c hc
   simp[Q.run]at hq;obtain⟨rfl,rfl⟩:=hq
   unfold cR at hc
   rw[List.getElem?_map,Option.map_eq_some_iff]at hc
   obtain⟨u,hu,rfl⟩:=hc
   have Cp:arr[m.toNat]? =some u:=by
    have:arr.data[m.toNat]? =some u:=by simpa using hu
    have eo:=(Array.getElem?_eq_some_iff.1 this).1
    have:arr.data[m.toNat]=u:=(Array.getElem?_eq_some_iff.1 this).2
    show(if h:m.toNat<arr.size then some arr[m.toNat]else none)=some u
    have qo:m.toNat<arr.size:=eo
    rw[dif_pos qo];exact congrArg some this
   exact bk h (cv:= .int .u8 u.toNat) (by simp[execOp,ho,e3,ej,Instr.index,run_underlying ht,asIntOf,hm,Cp]) (by simp only[aw])
  ·simp[Q.run]at hq
 ·simp[Q.run]at hq
theorem WV{d nx:Nat}{t e:TypeId}{x j:Operand}{x' j':bq}{n:Nat}(ho:o.op= .indexAddr t x j)(hx:dY x=some x')(hj:dY j=some j')(ht:P.underlying t=some (.slice e))(hn:dS P e=some n)
  (hq:(bT d st.rho (.ia x' j' n)).run st.get nx=some (.val v ups)):dG P B st a w β M o v ups:=by
 have vx:=cI x x' hx
 have vj:=cI j j' hj
 have run: ∀(blk off len cap:Nat) k (m:Int),a.eval x= .slice (some ⟨blk,off,none⟩) len cap→a.eval j= .int k m→0≤m→m.toNat<len→(execOp a.eval o).run P w= .ok (.value (.pointer (some ⟨blk,off+m.toNat*n,none⟩))) w:=by
  intro blk off len cap k m e1 e2 h1 h2
  have:0≤m∧m<(len:Int):=by omega
  simp[execOp,ho,e1,e2,Instr.indexAt,run_underlying ht,asIntOf,this,fM hn,eN]
 simp only[bT]at hq
 split at hq
 ·rename_i jn cs len ex e1 e2
  split at hq
  ·rename_i hc
   simp[Q.run]at hq;obtain⟨rfl,rfl⟩:=hq
   simp at hc
   obtain⟨k,m,em,hm,rfl⟩:=gO e1
   rw[e2]at vx;rw[em]at vj
   simp only[aw,PRel]at vx
   obtain⟨blk,off,cap,sp,e3,h1,h2,h5,h3⟩:=vx
   obtain rfl:sp=none:=h5.resolve_right (by have:=hc.1;omega)
   refine bk h (run _ _ _ _ _ _ e3 vj.int hm hc.1) ?_
   simp only[aw,PRel]
   exact⟨_,_,rfl,aY.drop _ h3 (by have:=hc.2;rw[Nat.add_mul]at this;omega)⟩
  ·simp[Q.run]at hq
 ·rename_i jn sp k g off len sz e1 e2
  split at hq
  ·rename_i hc
   simp[Q.run]at hq;obtain⟨rfl,rfl⟩:=hq
   simp at hc
   obtain⟨kk,m,em,hm,rfl⟩:=gO e1
   rw[e2]at vx;rw[em]at vj
   simp only[aw]at vx
   obtain⟨h1,cap,e3,h2,h3⟩:=vx
   refine bk h (run _ _ _ _ _ _ e3 vj.int hm hc.1) ?_
   simp only[aw]
   exact⟨h1,by rw[Nat.add_assoc]⟩
  ·simp[Q.run]at hq
 ·simp[Q.run]at hq
theorem SH{d nx:Nat}{t e:TypeId}{x j:Operand}{x' j':bq}{len n:Nat}(ho:o.op= .indexAddr t x j)(hx:dY x=some x')(hj:dY j=some j')(ht:P.underlying t=some (.array len e))(hn:dS P e=some n)
  (hq:(bT d st.rho (.iaA x' j' len n)).run st.get nx=some (.val v ups)):dG P B st a w β M o v ups:=by
 have vx:=cI x x' hx
 have vj:=cI j j' hj
 have run: ∀(blk off:Nat) k (m:Int),a.eval x= .pointer (some ⟨blk,off,none⟩)→a.eval j= .int k m→0≤m→m.toNat<len→(execOp a.eval o).run P w= .ok (.value (.pointer (some ⟨blk,off+m.toNat*n,none⟩))) w:=by
  intro blk off k m e1 e2 h1 h2
  have:0≤m∧m<(len:Int):=by omega
  simp[execOp,ho,e1,e2,Instr.indexAt,run_underlying ht,asIntOf,Instr.sureAddr,this,fM hn,eN]
 simp only[bT]at hq
 split at hq
 ·rename_i jn cs e1 e2
  split at hq
  ·rename_i hc
   simp[Q.run]at hq;obtain⟨rfl,rfl⟩:=hq
   simp at hc
   obtain⟨k,m,em,hm,rfl⟩:=gO e1
   rw[e2]at vx;rw[em]at vj
   simp only[aw,PRel]at vx
   obtain⟨blk,off,e3,h3⟩:=vx
   refine bk h (run _ _ _ _ e3 vj.int hm hc.1) ?_
   simp only[aw,PRel]
   exact⟨_,_,rfl,aY.drop _ h3 (by have:=hc.2;rw[Nat.add_mul]at this;omega)⟩
  ·simp[Q.run]at hq
 ·rename_i jn sp k g off e1 e2
  split at hq
  ·rename_i hc
   simp[Q.run]at hq;obtain⟨rfl,rfl⟩:=hq
   obtain⟨kk,m,em,hm,rfl⟩:=gO e1
   rw[e2]at vx;rw[em]at vj
   simp only[aw]at vx
   refine bk h (run _ _ _ _ vx.2 vj.int hm hc) ?_
   simp only[aw]
   exact⟨vx.1,by rw[Nat.add_assoc]⟩
  ·simp[Q.run]at hq
 ·simp[Q.run]at hq
end
end Go.Ev
namespace Go.Ev
open Go
theorem uB(s:ByteArray)(l h:Nat):cR (s.extract l h)=((cR s).drop l).take (h-l):=by
 unfold cR
 rw[ByteArray.data_extract,Array.toList_extract,List.extract_eq_take_drop,List.map_take,List.map_drop]
theorem dH{P:Program}{w:World}{k:IntKind}{m:Int}{y:Nat}{code:BoundsCode}(h1:0≤m)(h2:m.toNat≤y):(Instr.sliceBound (.int k m) y code).run P w= .ok m.toNat w:=by
 have:0≤m∧m≤(y:Int):=by omega
 simp[Instr.sliceBound,asIntOf,this]
section
variable{P:Program}{B:eu}{st:St}{a:Act}{w:World}{β:bj}{M:aM}{o:Oper}{v:T}{ups:List Up}
variable(cI:jS β st.gens w M st.rho a.eval)(h:bz B st w β M)
include cI in
theorem oH{x:Option Operand}{x':Option bq}{Mg n:Nat}(hx:nE x=some x')(e:bH st.rho Mg x'=some n):
  (x=none∧x'=none∧n=Mg)∨ ∃y k m,x=some y∧a.eval y= .int k m∧0≤m∧m.toNat=n:=by
 cases x with
 |none=>simp[nE]at hx;subst hx;simp[bH]at e;exact .inl ⟨rfl,rfl,e.symm⟩
 |some y=>
  simp only[nE,Option.map_eq_some_iff]at hx
  obtain⟨y',hy,rfl⟩:=hx
  simp only[bH]at e
  obtain⟨k,m,em,hm,hn⟩:=gO e
  have:=cI y y' hy
  rw[em]at this
  exact .inr ⟨y,k,m,rfl,this.int,hm,hn⟩
include cI in
theorem nv{lo hi:Option Operand}{Mn wh:Option bq}{isS:Bool}{len cap l hh:Nat}(h1:nE lo=some Mn)(h2:nE hi=some wh)(e1:bH st.rho 0 Mn=some l)(e2:bH st.rho len wh=some hh)
  (hl:l≤hh) (hc:hh≤len) (ZK:len≤cap):(Instr.sliceBounds isS len cap (lo.map a.eval) (hi.map a.eval) none).run P w= .ok (l,hh,cap) w:=by
 unfold Instr.sliceBounds
 rcases oH cI h1 e1 with⟨rfl,rfl,rfl⟩|⟨y,k,m,rfl,ey,hm,rfl⟩ <;> rcases oH cI h2 e2 with⟨rfl,rfl,rfl⟩|⟨y2,k2,m2,rfl,WW,D5,rfl⟩
 ·simp
 ·simp[WW,dH D5 (Nat.le_trans hc ZK)]
 ·simp[ey,dH hm hl]
 ·simp[ey,WW,dH D5 (Nat.le_trans hc ZK),dH hm hl]
include cI h
theorem SI{d nx:Nat}{t:TypeId}{x:Operand}{x':bq}{lo hi:Option Operand}{Mn wh:Option bq}(ho:o.op= .slice t x lo hi none)(hx:dY x=some x')(h1:nE lo=some Mn)(h2:nE hi=some wh)(ht:P.underlying t=some .string)
  (hq:(bT d st.rho (.slS x' Mn wh)).run st.get nx=some (.val v ups)):dG P B st a w β M o v ups:=by
 have vx:=cI x x' hx
 simp only[bT]at hq
 split at hq
 ·rename_i bs e
  rw[e]at vx
  obtain⟨s,es,rfl⟩:=vx.str
  split at hq
  ·rename_i l hh e1 e2
   split at hq
   ·rename_i hc
    simp at hc
    simp[Q.run]at hq;obtain⟨rfl,rfl⟩:=hq
    rw[eU]at e2 hc
    have hb:=nv (P:=P) (w:=w) (isS:=false) cI h1 h2 e1 e2 hc.1 hc.2 (Nat.le_refl _)
    refine bk h (cv:= .string (s.extract l hh)) ?_ (by simp only[aw];exact⟨_,rfl,uB s l hh⟩)
    simp[execOp,ho,es,Instr.sliceAt,run_underlying ht,Instr.slice,hb]
   ·simp[Q.run]at hq
  ·simp[Q.run]at hq
 ·simp[Q.run]at hq
theorem SJ{d nx:Nat}{t e:TypeId}{n:Nat}{x:Operand}{x':bq}{lo hi mx:Option Operand}{Mn wh mx':Option bq}(ho:o.op= .slice t x lo hi mx)(hx:dY x=some x')(h1:nE lo=some Mn)(h2:nE hi=some wh)(h3:nE mx=some mx')
  (ht:P.underlying t=some (.slice e)) (hn:dS P e=some n) (h0:n≠0) (SK:mx.isSome=true→hi.isSome=true)
  (hq:(bT d st.rho (.slV n x' Mn wh mx')).run st.get nx=some (.val v ups)):dG P B st a w β M o v ups:=by
 have vx:=cI x x' hx
 simp only[bT]at hq
 cases hlen:nD (st.rho x')with
 |none=>simp[hlen,Q.run]at hq
 |some len=>
  simp only[hlen]at hq
  cases e1:bH st.rho 0 Mn with
  |none=>simp[e1,Q.run]at hq
  |some l=>
   cases e2:bH st.rho len wh with
   |none=>simp[e1,e2,Q.run]at hq
   |some hh=>
    cases mx with
    |none=>
     simp[nE]at h3;subst h3
     simp only[e1,e2,Q.run_bind]at hq
     have run: ∀(ad:Option Addr) cap,a.eval x= .slice ad len cap→l≤hh→hh≤len→len≤cap→
       (execOp a.eval o).run P w= .ok (.value (.slice (if cap=l then ad else ad.map (·.add (l*n))) (hh-l) (cap-l))) w:=by
      intro ad cap ex qp zA WX
      have hb:=nv (P:=P) (w:=w) (isS:=true) cI h1 h2 e1 e2 qp zA WX
      simp[execOp,ho,ex,Instr.sliceAt,run_underlying ht,Instr.slice,hb,fM hn]
     cases hs:(sx n (st.rho x') l hh).run st.get nx with
     |none=>simp[hs]at hq
     |some v'=>
      simp[hs,Q.run]at hq;obtain⟨rfl,rfl⟩:=hq
      unfold sx at hs
      split at hs
      ·rename_i ex
       split at hs
       ·rename_i hc
        simp[Q.run]at hs;subst hs
        simp at hc;obtain⟨rfl,rfl⟩:=hc
        rw[ex]at vx hlen
        simp[nD]at hlen;subst hlen
        simp only[aw]at vx
        refine bk h (run _ _ vx (Nat.le_refl _) (Nat.le_refl _) (Nat.le_refl _)) ?_
        simp[aw]
       ·simp[Q.run]at hs
      ·rename_i cs FU ex' ex
       rw[ex]at vx hlen
       simp[nD]at hlen;subst hlen
       split at hs
       ·rename_i hc
        simp[Q.run]at hs;subst hs
        simp at hc
        obtain⟨⟨c1,c2⟩,c3⟩:=hc
        simp only[aw,PRel]at vx
        obtain⟨blk,off,cap,sp,e3,p1,p2,p4,p3⟩:=vx
        refine bk h (run _ _ e3 c1 c2 p1) ?_
        simp only[aw,PRel]
        by_cases Ao:cap=l
        ·rw[if_pos Ao]
         have:hh=l:=by omega
         subst this
         refine⟨blk,off,cap-hh,sp,by simp,by omega,fun hex=>by omega,.inr (by omega), ?_⟩
         simp[aY]
        ·rw[if_neg Ao]
         obtain rfl:sp=none:=p4.resolve_right (by omega)
         refine⟨blk,off+l*n,cap-l,none,by simp[eN],by omega,fun hex=> ?_,.inl rfl, ?_⟩
         ·simp at hex
          have:=p2 hex.1
          omega
         ·refine aY.take _ (aY.drop _ p3 ?_)
          rw[c3];exact Nat.mul_le_mul_right n (Nat.le_trans c1 c2)
       ·simp[Q.run]at hs
      ·rename_i sp k g off FU sz ex
       rw[ex]at vx hlen
       simp[nD]at hlen;subst hlen
       split at hs
       ·rename_i hc
        simp[Q.run]at hs;subst hs
        simp at hc
        obtain⟨⟨c1,c2⟩,rfl⟩:=hc
        simp only[aw]at vx
        obtain⟨q1,cap,e3,p1,p2⟩:=vx
        refine bk h (run _ _ e3 c1 c2 p1) ?_
        by_cases hlh:l=hh
        ·subst hlh
         rw[if_pos rfl]
         simp only[aw,PRel]
         by_cases Ao:cap=l
         ·rw[if_pos Ao]
          exact⟨(β sp k g).blk,(β sp k g).off+off,cap-l,none,by simp,by omega,(fun e=>by cases e),.inl rfl,by simp[aY]⟩
         ·rw[if_neg Ao]
          exact⟨(β sp k g).blk,(β sp k g).off+off+l*sz,cap-l,none,by simp[eN],by omega,(fun e=>by cases e),.inl rfl,by simp[aY]⟩
        ·rw[if_neg hlh,if_neg (by omega)]
         simp only[aw]
         refine⟨q1,cap-l,by simp[eN,Nat.add_assoc],by omega, ?_⟩
         have:(cap-l)*sz+l*sz=cap*sz:=by rw[←Nat.add_mul];congr 1;omega
         omega
       ·simp[Q.run]at hs
      ·simp[Q.run]at hs
    |some m=>
     simp only[nE,Option.map_eq_some_iff]at h3
     obtain⟨m',Mo,rfl⟩:=h3
     have vm:=cI m m' Mo
     have run: ∀(ad:Option Addr) cap,a.eval x= .slice ad len cap→ ∀k (z:Int),a.eval m= .int k z→z=0→l=0→hh=0→
       (execOp a.eval o).run P w= .ok (.value (.slice ad 0 0)) w:=by
      intro ad cap ex k z em hz hl0 hh0
      subst hz;subst hl0;subst hh0
      have hb:(Instr.sliceBounds true len cap (lo.map a.eval) (hi.map a.eval) (some (.int k 0))).run P w= .ok (0,0,0) w:=by
       unfold Instr.sliceBounds
       rcases oH cI h2 e2 with⟨rfl,rfl,ZL⟩|⟨y2,k2,m2,rfl,WW,D5,hz2⟩
       ·simp at SK
       ·have b1:=dH (P:=P) (w:=w) (k:=k) (m:=0) (y:=cap) (code:= .slice3Acap) (by omega) (by simp)
        have b2:=dH (P:=P) (w:=w) (k:=k2) (m:=m2) (y:=0) (code:= .slice3B) D5 (by omega)
        rcases oH cI h1 e1 with⟨rfl,rfl,_⟩|⟨y,k1,m1,rfl,ey,hm,Ap⟩
        ·simp[WW,b1,b2];omega
        ·have b3:=dH (P:=P) (w:=w) (k:=k1) (m:=m1) (y:=m2.toNat) (code:= .slice3C) hm (by omega)
         simp[WW,ey,b1,b2,b3];omega
      cases ad <;> simp[execOp,ho,ex,em,Instr.sliceAt,run_underlying ht,Instr.slice,hb,fM hn]
     simp only[e1,e2]at hq
     cases em:asNat (st.rho m')with
     |none=>simp[em,Q.run]at hq
     |some z=>
      obtain⟨km,zm,ez,Ap,hz2⟩:=gO em
      rw[ez]at vm
      have vm':=vm.int
      split at hq
      ·rename_i SL ex
       rw[em]at SL
       simp at SL;subst SL
       rw[ex]at vx hlen
       simp only[aw]at vx
       simp[nD]at hlen
       split at hq
       ·rename_i hc
        simp at hc
        simp[Q.run]at hq;obtain⟨rfl,rfl⟩:=hq
        exact bk h (run _ _ (by rw[vx,hlen]) km zm vm' (by omega) hc.1 hc.2) (by simp only[aw])
       ·simp[Q.run]at hq
      ·rename_i SL ev
       rw[em]at SL
       simp at SL;subst SL
       split at hq
       ·rename_i hc
        simp at hc
        simp[Q.run]at hq;obtain⟨rfl,rfl⟩:=hq
        have: ∃blk off cap sp,a.eval x= .slice (some ⟨blk,off,sp⟩) len cap:=by
         generalize st.rho x'=tx at*
         cases tx <;> simp[nD]at hlen
         case nilsl=>exact absurd rfl ev
         case sl cs FU ex=>
          subst hlen
          simp only[aw,PRel]at vx
          obtain⟨blk,off,cap,sp,e3,_⟩:=vx
          exact⟨blk,off,cap,sp,e3⟩
         case isl sp k g off FU sz=>
          subst hlen
          simp only[aw]at vx
          obtain⟨_,cap,e3,_⟩:=vx
          exact⟨_,_,cap,none,e3⟩
        obtain⟨blk,off,cap,sp,e3⟩:=this
        refine bk h (run _ _ e3 km zm vm' (by omega) hc.1 hc.2) ?_
        simp only[aw,PRel]
        exact⟨blk,off,0,sp,rfl,Nat.le_refl _,fun _=>rfl,.inr rfl,by simp[aY]⟩
       ·simp[Q.run]at hq
      ·simp[Q.run]at hq
end
end Go.Ev
namespace Go.Ev
open Go
section
variable{P:Program}{B:eu}{st:St}{a:Act}{w:World}{β:bj}{M:aM}{o:Oper}{v:T}{ups:List Up}
theorem Cq{isMax:Bool}{x y:T}{ys:List T}{r:T}(h:bM isMax x (y::ys)=some r): ∃k n,x= .i k n:=by
 unfold bM at h
 split at h
 ·simp at*
 ·exact⟨_,_,rfl⟩
 ·cases h
theorem dy{c:Call}{b:Builtin}(ho:o.op= .call c)(hb:c.callee= .builtin b):
  (execOp a.eval o).run P w=(builtin b c.argTypes o.type (c.args.map fun| .const _=>true|_=>false) (c.args.map a.eval)).run P w:=by
 simp only[execOp,ho,resolve,hb,Sem.run_bind]
 rfl
theorem qq{args:Array Operand}{x:Operand}(h:args.toList= [x])(f:Operand→Value):args.map f= #[f x]:=by
 apply Array.ext';simp[h]
theorem Mp{args:Array Operand}{x y:Operand}(h:args.toList= [x,y])(f:Operand→Value):args.map f= #[f x,f y]:=by
 apply Array.ext';simp[h]
variable(cI:jS β st.gens w M st.rho a.eval)(h:bz B st w β M)
include cI h
theorem Mq{d nx:Nat}{c:Call}{t:TypeId}{x:Operand}{x':bq}(ho:o.op= .call c)(hb:c.callee= .builtin .len)(ht:c.argTypes[0]? =some t)(ha:c.args.toList= [x])(hu:P.underlying t=some .string)(hx:dY x=some x')
  (hq:(bT d st.rho (.lenS x')).run st.get nx=some (.val v ups)):dG P B st a w β M o v ups:=by
 have vx:=cI x x' hx
 simp only[bT]at hq
 split at hq
 ·rename_i bs e
  simp[Q.run]at hq;obtain⟨rfl,rfl⟩:=hq
  rw[e]at vx
  obtain⟨s,es,rfl⟩:=vx.str
  refine bk h (cv:= .int .i64 s.size) ?_ (by simp only[aw,eU])
  rw[dy ho hb,qq ha]
  simp[builtin,Builtin.len_,ht,es,run_underlying hu,goInt]
 ·simp[Q.run]at hq
theorem Mr{d nx:Nat}{c:Call}{t e:TypeId}{x:Operand}{x':bq}(ho:o.op= .call c)(hb:c.callee= .builtin .len)(ht:c.argTypes[0]? =some t)(ha:c.args.toList= [x])(hu:P.underlying t=some (.slice e))(hx:dY x=some x')
  (hq:(bT d st.rho (.lenV x')).run st.get nx=some (.val v ups)):dG P B st a w β M o v ups:=by
 have vx:=cI x x' hx
 simp only[bT]at hq
 cases hl:nD (st.rho x')with
 |none=>simp[hl,Ev.val,Q.run]at hq
 |some n=>
  simp[hl,Ev.val,Q.run]at hq;obtain⟨rfl,rfl⟩:=hq
  have: ∃ad cap,a.eval x= .slice ad n cap:=by
   generalize st.rho x'=tx at*
   cases tx <;> simp[nD]at hl
   case nilsl=>subst hl;simp only[aw]at vx;exact⟨_,_,vx⟩
   case sl cs FU ex=>subst hl;simp only[aw,PRel]at vx;obtain⟨blk,off,cap,sp,e3,_⟩:=vx;exact⟨_,cap,e3⟩
   case isl sp k g off FU sz=>subst hl;simp only[aw]at vx;obtain⟨_,cap,e3,_⟩:=vx;exact⟨_,cap,e3⟩
  obtain⟨ad,cap,e1⟩:=this
  refine bk h (cv:= .int .i64 n) ?_ (by simp only[aw])
  rw[dy ho hb,qq ha]
  simp[builtin,Builtin.len_,ht,e1,run_underlying hu,goInt]
theorem Ms{d nx:Nat}{c:Call}{t kt et:TypeId}{x:Operand}{x':bq}(ho:o.op= .call c)(hb:c.callee= .builtin .len)(ht:c.argTypes[0]? =some t)(ha:c.args.toList= [x])(hu:P.underlying t=some (.map kt et))(hx:dY x=some x')
  (hq:(bT d st.rho (.lenM x')).run st.get nx=some (.val v ups)):dG P B st a w β M o v ups:=by
 have vx:=cI x x' hx
 have run: ∀blk es clock,a.eval x= .map (some blk)→w.heap[blk]? =some (.map es clock)→(execOp a.eval o).run P w= .ok (.value (.int .i64 es.size)) w:=by
  intro blk es clock e1 e2
  rw[dy ho hb,qq ha]
  simp[builtin,Builtin.len_,ht,e1,run_underlying hu,goInt,getObj,Sem.run,e2]
 simp only[bT]at hq
 split at hq
 ·rename_i e
  simp[Q.run]at hq;obtain⟨rfl,rfl⟩:=hq
  rw[e]at vx;simp only[aw]at vx
  refine bk h (cv:= .int .i64 0) ?_ (by simp only[aw])
  rw[dy ho hb,qq ha]
  simp[builtin,Builtin.len_,ht,vx,run_underlying hu,goInt]
 ·rename_i ks vs e
  simp[Q.run]at hq;obtain⟨rfl,rfl⟩:=hq
  rw[e]at vx;simp only[aw,PRel]at vx
  obtain⟨blk,es,clock,e1,e2,_,_,e3,_⟩:=vx
  refine bk h (run blk es clock e1 e2) ?_
  simp only[aw]
  have:=PList.length _ _ e3
  simp at this;rw[this]
 ·rename_i sp k g e
  simp only[Q.run]at hq
  split at hq
  ·rename_i hg
   have ye:=h.obj sp k
   generalize he:st.get sp k=en at*
   obtain⟨ge,ob⟩:=en
   dsimp only at hg;subst hg
   cases ob with
   |none=>simp[Q.run]at hq
   |cells _ _ _=>simp[Q.run]at hq
   |map ks vs f=>
    simp[Q.run]at hq;obtain⟨rfl,rfl⟩:=hq
    rw[e]at vx;simp only[aw]at vx
    unfold dO at ye
    obtain⟨es,clock,e2,_,e3,_⟩:=ye
    refine bk h (run _ es clock vx.2 e2) ?_
    simp only[aw]
    have:=PList.length _ _ e3
    simp at this;rw[this]
  ·simp[Q.run]at hq
 ·simp[Q.run]at hq
omit cI in
theorem Mt{c:Call}{t e:TypeId}{n:Nat}{x:Operand}(ho:o.op= .call c)(hb:c.callee= .builtin .len)(ht:c.argTypes[0]? =some t)(ha:c.args.toList= [x])(hu:P.underlying t=some (.array n e)):
  dG P B st a w β M o (.i .i64 n) []:=by
 refine bk h (cv:= .int .i64 n) ?_ (by simp only[aw])
 rw[dy ho hb,qq ha]
 simp[builtin,Builtin.len_,ht,run_underlying hu,goInt]
omit cI h in
theorem Eg{k:IntKind}: ∀(rest:List T) (vs:List Value) (x:Int) (r:T),aA β st.gens w M rest vs→bM false (.i k x) rest=some r→ ∃n,r= .i k n∧(vs.foldlM Builtin.min2 (.int k x)).run P w= .ok (.int k n) w
 | [],vs,x,r,hl,hm=>by
   simp only[aA]at hl;subst hl
   simp[bM]at hm;subst hm
   exact⟨x,rfl,by simp⟩
 |t::ts,vs,x,r,hl,hm=>by
  simp only[aA]at hl
  obtain⟨u,us,rfl,h1,h2⟩:=hl
  cases t <;> simp only[bM]at hm <;> try (cases hm;done)
  rename_i k' y
  split at hm
  ·rename_i hk;subst hk
   have:=h1.int;subst this
   obtain⟨n,e1,e2⟩:=Eg ts us _ r h2 hm
   refine⟨n,e1, ?_⟩
   simp only[List.foldlM_cons,Sem.run_bind,Builtin.min2,Sem.run_pure,Result.andThen_ok]
   simpa using e2
  ·cases hm
omit cI h in
theorem Eh{k:IntKind}: ∀(rest:List T) (vs:List Value) (x:Int) (r:T),aA β st.gens w M rest vs→bM true (.i k x) rest=some r→ ∃n,r= .i k n∧(vs.foldlM Builtin.max2 (.int k x)).run P w= .ok (.int k n) w
 | [],vs,x,r,hl,hm=>by
   simp only[aA]at hl;subst hl
   simp[bM]at hm;subst hm
   exact⟨x,rfl,by simp⟩
 |t::ts,vs,x,r,hl,hm=>by
  simp only[aA]at hl
  obtain⟨u,us,rfl,h1,h2⟩:=hl
  cases t <;> simp only[bM]at hm <;> try (cases hm;done)
  rename_i k' y
  split at hm
  ·rename_i hk;subst hk
   have:=h1.int;subst this
   obtain⟨n,e1,e2⟩:=Eh ts us _ r h2 hm
   refine⟨n,e1, ?_⟩
   simp only[List.foldlM_cons,Sem.run_bind,Builtin.max2,Sem.run_pure,Result.andThen_ok]
   simpa using e2
  ·cases hm
theorem Ra{d nx:Nat}{isMax:Bool}{c:Call}{as:List bq}(ho:o.op= .call c)(hb:c.callee= .builtin (if isMax then .max else .min))(ha:rJ c.args.toList=some as)
  (hq:(bT d st.rho (.mm isMax as)).run st.get nx=some (.val v ups)):dG P B st a w β M o v ups:=by
 have hl:=oG cI ha
 simp only[bT]at hq
 split at hq
 ·rename_i x rest e
  cases hm:bM isMax x rest with
  |none=>simp[hm,Ev.val,Q.run]at hq
  |some r=>
   simp[hm,Ev.val,Q.run]at hq;obtain⟨rfl,rfl⟩:=hq
   rw[e]at hl
   simp only[aA]at hl
   obtain⟨u,us,e2,h1,h2⟩:=hl
   cases rest with
   |nil=>
    simp[bM]at hm;subst hm
    simp only[aA]at h2;subst h2
    refine bk h (cv:=u) ?_ h1
    rw[dy ho hb]
    cases isMax <;> simp[builtin,Builtin.min_,Builtin.max_,e2]
   |cons y ys=>
    obtain⟨k,xn,rfl⟩:=Cq hm
    have:=h1.int;subst this
    cases isMax with
    |false=>
     obtain⟨n,e3,e4⟩:=Eg (P:=P) (y::ys) us xn r h2 hm
     subst e3
     refine bk h (cv:= .int k n) ?_ (by simp only[aw])
     rw[dy ho hb]
     simp[builtin,Builtin.min_,e2,e4]
    |true=>
     obtain⟨n,e3,e4⟩:=Eh (P:=P) (y::ys) us xn r h2 hm
     subst e3
     refine bk h (cv:= .int k n) ?_ (by simp only[aw])
     rw[dy ho hb]
     simp[builtin,Builtin.max_,e2,e4]
 ·simp[Q.run]at hq
end
theorem nV{P:Program}{t:TypeId}{k:CK}(h:tj P t=some k):match k with| .int=> ∃ik,P.underlying t=some (.int ik)| .str=>P.underlying t=some .string| .bool=>P.underlying t=some .bool:=by
 unfold tj at h
 split at h <;> simp at h <;> subst h
 ·rename_i ik e;exact⟨ik,e⟩
 ·rename_i e;exact e
 ·rename_i e;exact e
theorem uC{P:Program}{β:bj}{G:Sp→Nat→Nat}{w:World}{M:aM}{t:TypeId}{k:CK}{x y:T}{cx cy:Value}{r:Bool}(d:Nat)(hk:tj P t=some k)(hx:aw β G w M x cx)(hy:aw β G w M y cy)(h:dE k x y=some r):
  (Op.equalIn (d+1) t cx cy).run P w= .ok r w:=by
 have hu:=nV hk
 unfold dE at h
 split at h
 ·simp at h;subst h
  rw[hx.bool,hy.bool]
  exact run_equalIn_bool' w d t _ _ hu
 ·split at h
  ·rename_i e;subst e
   simp at h;subst h
   obtain⟨ik,hu⟩:=hu
   rw[hx.int,hy.int]
   exact run_equalIn_int w d t _ ik _ _ hu
  ·cases h
 ·simp at h;subst h
  obtain⟨bx,e1,rfl⟩:=hx.str
  obtain⟨bY,e2,rfl⟩:=hy.str
  rw[e1,e2,run_equalIn_string w d t _ _ hu,di,di,fy]
 ·cases h
theorem qt{P:Program}{β:bj}{G:Sp→Nat→Nat}{w:World}{M:aM}(d:Nat){xa ya:Array Value}{xs ys:List T}(hx:aA β G w M xs xa.toList)(hy:aA β G w M ys ya.toList):
  ∀(fs:List Field) (i:Nat) (ks:List CK) (r:Bool),jk P i fs=some ks→cK ks (xs.drop i) (ys.drop i)=some r→(Op.eqFields (d+1) xa ya fs).run P w= .ok r w
 | [],i,ks,r,hk,he=>by
   simp[jk]at hk;subst hk
   generalize xs.drop i=xd at he
   generalize ys.drop i=yd at he
   cases xd <;> cases yd <;> simp[cK]at he
   subst he;simp[Op.eqFields]
 |f::fs,i,ks,r,hk,he=>by
  simp only[jk]at hk
  split at hk
  ·rename_i hc
   simp at hc
   obtain⟨⟨c1,c2⟩,c3⟩:=hc
   split at hk
   ·rename_i k Rb h1 h2
    simp at hk;subst hk
    cases IY:xs.drop i with
    |nil=>rw[IY]at he;cases ys.drop i <;> simp[cK]at he
    |cons x xr=>
     cases SM:ys.drop i with
     |nil=>rw[IY,SM]at he;simp[cK]at he
     |cons y yr=>
      rw[IY,SM]at he
      simp only[cK]at he
      have gx:xs[i]? =some x:=by have:=congrArg (·[0]?) IY;simpa using this
      have gy:ys[i]? =some y:=by have:=congrArg (·[0]?) SM;simpa using this
      obtain⟨cx,ax,vx⟩:=hx.get gx
      obtain⟨cy,ay,vy⟩:=hy.get gy
      have agg:oZ P f.type=some false:=by
       have:=nV h1
       unfold oZ
       cases k
       ·obtain⟨ik,e⟩:=this;simp[e]
       ·simp[this]
       ·simp[this]
      have rv:(Go.part f.type xa f.offset).run P w= .ok cx w:=by
       unfold Go.part;simp only[Sem.run_bind,nU agg,Result.andThen_ok]
       have:xa[i]? =some cx:=by simpa using ax
       simp[c1,this]
      have hny:(Go.part f.type ya f.offset).run P w= .ok cy w:=by
       unfold Go.part;simp only[Sem.run_bind,nU agg,Result.andThen_ok]
       have:ya[i]? =some cy:=by simpa using ay
       simp[c1,this]
      have hxd:xs.drop (i+1)=xr:=by rw[←List.drop_drop,IY];rfl
      have hyd:ys.drop (i+1)=yr:=by rw[←List.drop_drop,SM];rfl
      simp only[Op.eqFields,if_pos (show f.name≠ "_" from c2),Sem.run_bind,rv,hny,Result.andThen_ok]
      cases hc:dE k x y with
      |none=>simp[hc]at he
      |some b=>
       rw[uC d h1 vx vy hc]
       cases b with
       |false=>simp[hc]at he;subst he;simp
       |true=>
        simp only[hc]at he
        simp only[Result.andThen_ok,Bool.not_true,Bool.false_eq_true,if_false]
        exact qt d hx hy fs (i+1) Rb r h2 (by rw[hxd,hyd];exact he)
   ·cases hk
  ·cases hk
theorem jm{P:Program}{t:TypeId}{k:EK}(h:uw P t=some k):match k with
  | .one c=>tj P t=some c
  | .flat ks=> ∃fs,P.underlying t=some (.struct fs)∧P.eqGuardType P.depth t=false∧P.stoodInHeld t=false∧jk P 0 fs.toList=some ks
  | .sl=> ∃e,P.underlying t=some (.slice e)
  | .ptr=> ∃e,P.underlying t=some (.pointer e)
  | .map=> ∃a b,P.underlying t=some (.map a b):=by
 unfold uw at h
 split at h
 ·simp at h;subst h;rename_i e;simp[tj,e]
 ·simp at h;subst h;rename_i e;simp[tj,e]
 ·simp at h;subst h;rename_i e;simp[tj,e]
 ·simp at h;subst h;rename_i x e;exact⟨x,e⟩
 ·simp at h;subst h;rename_i x e;exact⟨x,e⟩
 ·simp at h;subst h;rename_i x y e;exact⟨x,y,e⟩
 ·rename_i fs e
  split at h
  ·rename_i hc
   simp only[Option.map_eq_some_iff]at h
   obtain⟨ks,h1,rfl⟩:=h
   simp at hc
   exact⟨fs,e,hc.1,hc.2,h1⟩
  ·cases h
 ·cases h
theorem tl{P:Program}(w:World)(d:Nat)(t e:TypeId)(p:Option Addr)(h:P.underlying t=some (.pointer e)):(Op.equalIn (d+1) t (.pointer p) (.pointer none)).run P w= .ok p.isNone w:=by
 cases p <;> simp[Op.equalIn,run_underlying h]
theorem lP{P:Program}(w:World)(t e:TypeId)(p:Option Addr)(h:P.underlying t=some (.pointer e)):(Op.equal t (.pointer p) (.pointer none)).run P w= .ok p.isNone w:=tl w 9999 t e p h
theorem Ei{P:Program}{β:bj}{G:Sp→Nat→Nat}{w:World}{M:aM}{t:TypeId}{k:EK}{x y:T}{cx cy:Value}{r:Bool}(hk:uw P t=some k)(hx:aw β G w M x cx)(hy:aw β G w M y cy)(h:mN k x y=some r):
  (Op.equal t cx cy).run P w= .ok r w:=by
 have hu:=jm hk
 unfold mN at h
 split at h
 ·exact uC 9999 hu hx hy h
 ·rename_i ks xs ys
  obtain⟨fs,u1,u2,u3,u4⟩:=hu
  simp only[aw]at hx hy
  obtain⟨xa,rfl,lx,_⟩:=hx
  obtain⟨ya,rfl,ly,_⟩:=hy
  have hf:P.fieldsOf t=fs:=by simp[Program.fieldsOf,u1]
  have:=run_equalIn_struct w 9999 t xa ya (by rw[hf];exact u1) u3
  rw[hf]at this
  exact this.trans (qt 9998 lx ly _ 0 ks r u4 (by simpa using h))
 ·simp at h;subst h
  obtain⟨e,hu⟩:=hu
  simp only[aw]at hx hy;subst hx;subst hy
  exact run_equal_slice_nil w t e _ _ _ hu
 ·simp at h;subst h
  obtain⟨e,hu⟩:=hu
  simp only[aw,PRel]at hx hy
  obtain⟨_,_,_,_,rfl,_⟩:=hx;subst hy
  exact run_equal_slice_nil w t e _ _ _ hu
 ·simp at h;subst h
  obtain⟨e,hu⟩:=hu
  simp only[aw]at hx hy
  obtain⟨_,_,rfl,_⟩:=hx;subst hy
  exact run_equal_slice_nil w t e _ _ _ hu
 ·simp at h;subst h
  obtain⟨e,hu⟩:=hu
  simp only[aw]at hx hy;subst hx;subst hy
  exact lP w t e _ hu
 ·simp at h;subst h
  obtain⟨e,hu⟩:=hu
  simp only[aw,PRel]at hx hy
  obtain⟨_,_,rfl,_⟩:=hx;subst hy
  exact lP w t e _ hu
 ·simp at h;subst h
  obtain⟨e,hu⟩:=hu
  simp only[aw]at hx hy
  obtain⟨_,rfl⟩:=hx;subst hy
  exact lP w t e _ hu
 ·simp at h;subst h
  obtain⟨e,e',hu⟩:=hu
  simp only[aw]at hx hy;subst hx;subst hy
  exact run_equal_map_nil w t e e' _ hu
 ·simp at h;subst h
  obtain⟨e,e',hu⟩:=hu
  simp only[aw,PRel]at hx hy
  obtain⟨_,_,_,rfl,_⟩:=hx;subst hy
  exact run_equal_map_nil w t e e' _ hu
 ·simp at h;subst h
  obtain⟨e,e',hu⟩:=hu
  simp only[aw]at hx hy
  obtain⟨_,rfl⟩:=hx;subst hy
  exact run_equal_map_nil w t e e' _ hu
 ·cases h
end Go.Ev
namespace Go.Ev
open Go
section
variable{P:Program}{B:eu}{st:St}{a:Act}{w:World}{β:bj}{M:aM}{o:Oper}{v:T}{ups:List Up}
variable(cI:jS β st.gens w M st.rho a.eval)(h:bz B st w β M)
include cI h in
theorem Ej{neg:Bool}{k:EK}{t t':TypeId}{x y:Operand}{x' y':bq}(ho:o.op= .binOp (if neg then .neq else .eql) t x y t')(hx:dY x=some x')(hy:dY y=some y')(hk:uw P t=some k)(hn:k≠ .one .int∧k≠ .one .str){r:Bool}
  (hq:mN k (st.rho x') (st.rho y')=some r):dG P B st a w β M o (.b (r != neg)) []:=by
 have vx:=cI x x' hx
 have vy:=cI y y' hy
 have he:=Ei (P:=P) hk vx vy hq
 have hu:=jm hk
 refine bk h (cv:= .bool (r != neg)) ?_ (by simp only[aw])
 generalize st.rho x'=tx at*
 generalize st.rho y'=ty at*
 have fin: ∀cx cy,a.eval x=cx→a.eval y=cy→(eqGuard (if neg then .neq else .eql) t x y cx cy).run P w= .ok () w→
   ((binOp .eql t cx cy)=(do pure (.bool (←Op.equal t cx cy))))→((binOp .neq t cx cy)=(do pure (.bool (!(←Op.equal t cx cy)))))→(execOp a.eval o).run P w= .ok (.value (.bool (r != neg))) w:=by
  intro cx cy e1 e2 e3 e4 e5
  rw[e1,e2]at he
  cases neg
  ·simp at e3
   simp[execOp,ho,e1,e2,e3,e4,he]
  ·simp at e3
   simp[execOp,ho,e1,e2,e3,e5,he]
 have g0: ∀cx cy,(∀z,cx≠ .agg z)→cx≠ .nilIface→(eqGuard (if neg then .neq else .eql) t x y cx cy).run P w= .ok () w:=by
  intro cx cy h1 h2
  cases neg <;> cases cx <;> simp[eqGuard]at*
 unfold mN at hq
 split at hq
 ·rename_i c
  unfold dE at hq
  split at hq
  ·exact fin _ _ vx.bool vy.bool (g0 _ _ (by simp) (by simp)) rfl rfl
  ·exact absurd rfl hn.1
  ·exact absurd rfl hn.2
  ·cases hq
 ·obtain⟨fs,u1,u2,u3,u4⟩:=hu
  simp only[aw]at vx vy
  obtain⟨xa,e1,_⟩:=vx
  obtain⟨ya,e2,_⟩:=vy
  exact fin _ _ e1 e2 (run_eqGuard_agg w _ t x y xa ya u2) rfl rfl
 ·simp only[aw]at vx vy
  exact fin _ _ vx vy (g0 _ _ (by simp) (by simp)) rfl rfl
 ·simp only[aw,PRel]at vx vy
  obtain⟨_,_,_,_,e1,_⟩:=vx
  exact fin _ _ e1 vy (g0 _ _ (by simp) (by simp)) rfl rfl
 ·simp only[aw]at vx vy
  obtain⟨_,_,e1,_⟩:=vx
  exact fin _ _ e1 vy (g0 _ _ (by simp) (by simp)) rfl rfl
 ·simp only[aw]at vx vy
  exact fin _ _ vx vy (g0 _ _ (by simp) (by simp)) rfl rfl
 ·simp only[aw,PRel]at vx vy
  obtain⟨_,_,e1,_⟩:=vx
  exact fin _ _ e1 vy (g0 _ _ (by simp) (by simp)) rfl rfl
 ·simp only[aw]at vx vy
  exact fin _ _ vx.2 vy (g0 _ _ (by simp) (by simp)) rfl rfl
 ·simp only[aw]at vx vy
  exact fin _ _ vx vy (g0 _ _ (by simp) (by simp)) rfl rfl
 ·simp only[aw,PRel]at vx vy
  obtain⟨_,_,_,e1,_⟩:=vx
  exact fin _ _ e1 vy (g0 _ _ (by simp) (by simp)) rfl rfl
 ·simp only[aw]at vx vy
  exact fin _ _ vx.2 vy (g0 _ _ (by simp) (by simp)) rfl rfl
 ·cases hq
end
theorem Cr{P:Program}{β:bj}{G:Sp→Nat→Nat}{w:World}{M:aM}{t:TypeId}{c:CK}{kd:TypeDesc}{k x:T}{kv xv:Value}{b:Bool}(hc:tj P t=some c)(hu:P.underlying t=some kd)(hk:aw β G w M k kv)(hx:aw β G w M x xv)(h:dE c k x=some b):
  Instr.sameNow kd kv xv=some b:=by
 have Cp:=nV hc
 unfold dE at h
 split at h
 ·simp at h;subst h
  rw[hk.bool,hx.bool]
  simp only at Cp
  rw[hu]at Cp;simp at Cp;subst Cp
  rfl
 ·split at h
  ·rename_i e;subst e
   simp at h;subst h
   obtain⟨ik,Cp⟩:=Cp
   rw[hu]at Cp;simp at Cp;subst Cp
   rw[hk.int,hx.int];simp[Instr.sameNow]
  ·cases h
 ·simp at h;subst h
  simp only at Cp
  rw[hu]at Cp;simp at Cp;subst Cp
  obtain⟨b1,e1,rfl⟩:=hk.str
  obtain⟨b2,e2,rfl⟩:=hx.str
  rw[e1,e2]
  simp[Instr.sameNow,beq_toListBytes,di,fy]
 ·cases h
def Found(es:List MapEntry)(off:Nat)(r:Option Nat)(res:Option (Nat×Value)):Prop:=
 match r with
 |none=>res=none
 |some i=> ∃e,es[i]? =some e∧res=some (off+i,e.val)
theorem uD{P:Program}{β:bj}{G:Sp→Nat→Nat}{w:World}{M:aM}{t:TypeId}{c:CK}{kd:TypeDesc}{k:T}{kv:Value}(hc:tj P t=some c)(hu:P.underlying t=some kd)(hk:aw β G w M k kv):
  ∀(es:List MapEntry) (ks:List T) (off:Nat) (r:Option Nat),PList w M ks (es.map (·.key))→eM (.one c) k ks=some r→ ∃res,Instr.findNow kd kv es off=some res∧Found es off r res
 | [],ks,off,r,hl,hf=>by
   cases ks with
   |nil=>simp[eM]at hf;subst hf;exact⟨none,rfl,rfl⟩
   |cons x xs=>simp[PList]at hl
 |e::es,ks,off,r,hl,hf=>by
  cases ks with
  |nil=>simp[PList]at hl
  |cons x xs=>
   simp only[List.map_cons,PList,List.cons.injEq]at hl
   obtain⟨u,us,⟨rfl,rfl⟩,h1,h2⟩:=hl
   simp only[eM,mN]at hf
   cases hb:dE c k x with
   |none=>simp[hb]at hf
   |some b=>
    have hs:=Cr hc hu hk (PRel.toV β G _ _ h1) hb
    cases b with
    |true=>
     simp[hb]at hf;subst hf
     exact⟨some (off,e.val),by simp[Instr.findNow,hs],e,rfl,rfl⟩
    |false=>
     simp only[hb,Option.map_eq_some_iff]at hf
     obtain⟨r',h3,rfl⟩:=hf
     obtain⟨res,e1,e2⟩:=uD hc hu hk es xs (off+1) r' h2 h3
     refine⟨res,by simp[Instr.findNow,hs,e1], ?_⟩
     cases r' with
     |none=>exact e2
     |some i=>
      obtain⟨e',a1,a2⟩:=e2
      exact⟨e',by simpa using a1,by rw[a2];simp;omega⟩
theorem pt{P:Program}{β:bj}{G:Sp→Nat→Nat}{w:World}{M:aM}{t:TypeId}{ek:EK}{k:T}{kv:Value}(hc:uw P t=some ek)(hk:aw β G w M k kv):
  ∀(es:List MapEntry) (ks:List T) (off:Nat) (r:Option Nat),PList w M ks (es.map (·.key))→eM ek k ks=some r→ ∃res,(Instr.findAsking t kv es off).run P w= .ok res w∧Found es off r res
 | [],ks,off,r,hl,hf=>by
   cases ks with
   |nil=>simp[eM]at hf;subst hf;exact⟨none,by simp[Instr.findAsking],rfl⟩
   |cons x xs=>simp[PList]at hl
 |e::es,ks,off,r,hl,hf=>by
  cases ks with
  |nil=>simp[PList]at hl
  |cons x xs=>
   simp only[List.map_cons,PList,List.cons.injEq]at hl
   obtain⟨u,us,⟨rfl,rfl⟩,h1,h2⟩:=hl
   simp only[eM]at hf
   cases hb:mN ek k x with
   |none=>simp[hb]at hf
   |some b=>
    have hs:=Ei (P:=P) hc hk (PRel.toV β G _ _ h1) hb
    cases b with
    |true=>
     simp[hb]at hf;subst hf
     exact⟨some (off,e.val),by simp[Instr.findAsking,hs],e,rfl,rfl⟩
    |false=>
     simp only[hb,Option.map_eq_some_iff]at hf
     obtain⟨r',h3,rfl⟩:=hf
     obtain⟨res,e1,e2⟩:=pt hc hk es xs (off+1) r' h2 h3
     refine⟨res,by simp[Instr.findAsking,hs,e1], ?_⟩
     cases r' with
     |none=>exact e2
     |some i=>
      obtain⟨e',a1,a2⟩:=e2
      exact⟨e',by simpa using a1,by rw[a2];simp;omega⟩
theorem Cu{P:Program}{t:TypeId}{ek:EK}(h:keyOf P t=some ek):uw P t=some ek∧((∃c,ek= .one c)∨ ∃ks,ek= .flat ks):=by
 unfold keyOf at h
 split at h
 ·rename_i c e;simp at h;subst h;exact⟨e,.inl ⟨c,rfl⟩⟩
 ·rename_i c e;simp at h;subst h;exact⟨e,.inr ⟨c,rfl⟩⟩
 ·cases h
theorem mT{P:Program}{β:bj}{G:Sp→Nat→Nat}{w:World}{M:aM}{t:TypeId}{ek:EK}{k:T}{kv:Value}(hc:keyOf P t=some ek)(hk:aw β G w M k kv)(es:List MapEntry)(ks:List T)(r:Option Nat)(hl:PList w M ks (es.map (·.key)))
  (hf:eM ek k ks=some r): ∃res,(Instr.findKey t kv es).run P w= .ok res w∧Found es 0 r res:=by
 obtain⟨he,lq⟩:=Cu hc
 unfold Instr.findKey
 rcases lq with⟨c,rfl⟩|⟨ck,rfl⟩
 ·have LP:=jm he
  simp only at LP
  have: ∃kd,P.underlying t=some kd:=by
   have:=nV LP
   cases c
   ·obtain⟨ik,e⟩:=this;exact⟨_,e⟩
   ·exact⟨_,this⟩
   ·exact⟨_,this⟩
  obtain⟨kd,hu⟩:=this
  obtain⟨res,e1,e2⟩:=uD LP hu hk es ks 0 r hl hf
  exact⟨res,by simp[run_underlying hu,e1],e2⟩
 ·obtain⟨fs,u1,_⟩:=jm he
  obtain⟨res,e1,e2⟩:=pt (P:=P) he hk es ks 0 r hl hf
  cases es with
  |nil=>
   refine⟨res, ?_,e2⟩
   have:res=none:=by
    cases ks with
    |nil=>simp[eM]at hf;subst hf;exact e2
    |cons x xs=>simp[PList]at hl
   subst this
   simp[run_underlying u1,Instr.findNow]
  |cons e es=>
   refine⟨res, ?_,e2⟩
   have:Instr.sameNow (.struct fs) kv e.key=none:=by unfold Instr.sameNow;split <;> simp_all
   simp[run_underlying u1,Instr.findNow,this,e1]
theorem qu{P:Program}{w:World}{t:TypeId}{c:CK}(hc:tj P t=some c)(n:Nat)(em:Bool)(v:Value):(Instr.checkKey em (n+1) t v).run P w= .ok () w:=by
 have:=nV hc
 cases c
 ·obtain⟨ik,e⟩:=this;simp[Instr.checkKey,run_underlying e]
 ·simp[Instr.checkKey,run_underlying this]
 ·simp[Instr.checkKey,run_underlying this]
theorem nw{P:Program}{w:World}(n:Nat)(em:Bool)(cs:Array Value): ∀(fs:List Field) (i:Nat) (ks:List CK),jk P i fs=some ks→i+ks.length≤cs.size→
  (forIn fs PUnit.unit (fun f (_:PUnit)=>
    if f.name≠ "_" then(do
     let p ←Go.part f.type cs f.offset
     Instr.checkKey em (n+1) f.type p
     pure (ForInStep.yield PUnit.unit))else pure (ForInStep.yield PUnit.unit):Field→PUnit→Sem (ForInStep PUnit))).run P w= .ok PUnit.unit w
 | [],i,ks,hk,hs=>by simp
 |f::fs,i,ks,hk,hs=>by
  simp only[jk]at hk
  split at hk
  ·rename_i hc
   simp at hc
   obtain⟨⟨c1,c2⟩,c3⟩:=hc
   split at hk
   ·rename_i k Rb h1 h2
    simp at hk;subst hk
    have agg:oZ P f.type=some false:=by
     have:=nV h1
     unfold oZ
     cases k
     ·obtain⟨ik,e⟩:=this;simp[e]
     ·simp[this]
     ·simp[this]
    have hi:i<cs.size:=by simp at hs;omega
    have hn:(Go.part f.type cs f.offset).run P w= .ok cs[i] w:=by
     unfold Go.part;simp only[Sem.run_bind,nU agg,Result.andThen_ok]
     have:cs[i]? =some cs[i]:=Array.getElem?_eq_getElem hi
     simp[c1,this]
    have ih:=nw (P:=P) (w:=w) n em cs fs (i+1) Rb h2 (by simp at hs;omega)
    simp only[List.forIn_cons,Sem.run_bind,if_pos (show f.name≠ "_" from c2),hn,Result.andThen_ok,qu h1,Sem.run_pure]
    exact ih
   ·cases hk
  ·cases hk
theorem sE{P:Program}{β:bj}{G:Sp→Nat→Nat}{w:World}{M:aM}{t:TypeId}{ek:EK}{k:T}{kv:Value}(hc:keyOf P t=some ek)(hk:aw β G w M k kv)(Cv:isKey ek k=true)(n:Nat)(em:Bool):
  (Instr.checkKey em (n+2) t kv).run P w= .ok () w:=by
 obtain⟨he,lq⟩:=Cu hc
 rcases lq with⟨c,rfl⟩|⟨ck,rfl⟩
 ·exact qu (jm he) (n+1) em kv
 ·obtain⟨fs,u1,_,_,u4⟩:=jm he
  unfold isKey at Cv
  split at Cv
  ·simp_all
  ·rename_i ks xs e
   simp at e;subst e
   simp only[aw]at hk
   obtain⟨arr,rfl,hl,_⟩:=hk
   have hlen:ck.length≤arr.size:=by
    have h1:=aA.length _ _ hl
    have: ∀(ks:List CK) (xs:List T),jX ks xs=true→ks.length=xs.length:=by
     intro ks
     induction ks with
     |nil=>intro xs h;cases xs <;> simp[jX]at h ⊢
     |cons k ks ih=>intro xs h;cases xs <;> simp[jX]at h ⊢; exact ih _ h.2
    rw[this _ _ Cv,h1];simp
   have:=nw (P:=P) (w:=w) n em arr fs.toList 0 ck u4 (by omega)
   rw[Instr.checkKey]
   simp only[Sem.run_bind,run_underlying u1,Result.andThen_ok]
   rw[←Array.forIn_toList,this]
   rfl
  ·cases Cv
end Go.Ev
