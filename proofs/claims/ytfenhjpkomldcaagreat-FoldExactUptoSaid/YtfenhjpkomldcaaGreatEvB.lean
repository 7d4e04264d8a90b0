/- A tree evaluator over the model, proved against it (part B): where it answers, the call returns that answer. Conditions: none beyond its theorems' own. -/
import Derived.Test.YtfenhjpkomldcaaGreatEvA
import Derived.Laws.Cells
import Derived.Laws.CopyRow
import Derived.Laws.AppendOwn
import Derived.Laws.Entries
import Derived.Laws.StructEq
import Derived.Laws.Cover3
set_option linter.unusedSimpArgs false
set_option linter.unusedVariables false
namespace Go.Ev
open Go
theorem mF{w:World}{M:aI}{v:Value}{t:T}(h:lW v=some t):PRel w M t v∧single t=true:=by
 unfold lW at h
 split at h
 case h_8 f a c=>
  split at h
  ·rename_i h1 h2
   simp at h;subst h
   simp only[PRel,single]
   exact⟨⟨a,c,rfl,by rw[h1];simp[PList],by rw[h2];simp[PList]⟩,trivial⟩
  ·simp at h
 all_goals (simp at h)
 all_goals (subst h;simp[PRel,PList,single])
theorem iR{w:World}{M:aI}: ∀{vs:List Value} {ts:List T},gp vs=some ts→PList w M ts vs∧ts.all single=true
 | [],ts,h=>by simp[gp]at h;subst h;simp[PList]
 |v::vs,ts,h=>by
  simp only[gp]at h
  split at h
  ·rename_i t rh h1 h2
   simp at h;subst h
   have a:=mF (w:=w) (M:=M) h1
   have b:=iR (w:=w) (M:=M) h2
   simp only[PList,List.all_cons,Bool.and_eq_true]
   exact⟨⟨v,vs,rfl,a.1,b.1⟩,a.2,b.2⟩
  ·simp at h
theorem iS{w:World}{M:aI}{v:Value}{t:T}(h:q9 v=some t):PRel w M t v:=by
 unfold q9 at h
 split at h
 ·rename_i cs
  simp only[Option.map_eq_some_iff]at h
  obtain⟨ts,h1,rfl⟩:=h
  have:=iR (w:=w) (M:=M) h1
  simp only[PRel];exact⟨cs,rfl,this.1,this.2⟩
 ·rename_i cs
  simp only[Option.map_eq_some_iff]at h
  obtain⟨ts,h1,rfl⟩:=h
  have:=iR (w:=w) (M:=M) h1
  simp only[PRel];exact⟨cs,rfl,this.1⟩
 ·exact(mF h).1
def iw(β:aS)(G:Sp→Nat→Nat)(w:World)(M:aI)(ρ:aZ→T)(e:Operand→Value):Prop:= ∀x y,dC x=some y→au β G w M (ρ y) (e x)
theorem Fq{st:St}{a:Act}{w:World}{β:aS}{M:aI}{n:Nat}(h:jI st a w β M n):iw β st.gens w M st.rho a.eval:=by
 intro x y lY
 cases x with
 |tmp t=>simp[dC]at lY;subst lY;exact h.slot t
 |const v=>
  simp only[dC,Option.map_eq_some_iff]at lY
  obtain⟨t,h1,rfl⟩:=lY
  exact PRel.toV _ _ _ _ (iS h1)
 |global g=>simp[dC]at lY
 |func f=>simp[dC]at lY;subst lY;simp[St.rho,Act.eval,au,av]
def dh(P:Program)(B:dP)(st:St)(a:Act)(w:World)(β:aS)(M:aI)(o:Oper)(v:T)(ups:List Up):Prop:=
 ∃nx cv w' be M',(execOp a.eval o).run P w= .ok nx w'∧(nx= .value cv∨(nx= .skip∧cv=undef))∧bf B (st.ups ups) w' be M'∧Tr st w β M (st.ups ups) w' be M'∧w.heap.size≤w'.heap.size∧au be (st.ups ups).gens w' M' v cv
section
variable{P:Program}{B:dP}{st:St}{a:Act}{w:World}{β:aS}{M:aI}{o:Oper}{v:T}{ups:List Up}
theorem aT(h:bf B st w β M){cv:Value}(hr:(execOp a.eval o).run P w= .ok (.value cv) w)(hv:au β st.gens w M v cv):dh P B st a w β M o v []:=
 ⟨_,cv,w,β,M,hr,.inl rfl,h,Tr.refl _ _ _ _,Nat.le_refl _,hv⟩
variable(bZ:iw β st.gens w M st.rho a.eval)(h:bf B st w β M)
include bZ h
theorem Nq{x:Operand}{y:aZ}(ho:o.op= .move x∨o.op= .assign x)(hx:dC x=some y):dh P B st a w β M o (st.rho y) []:=
 aT h (cv:=a.eval x) (by rcases ho with ho|ho <;> simp[execOp,ho]) (bZ x y hx)
theorem Ba{c x y:Operand}{c' x' y':aZ}(ho:o.op= .pick c x y)(h1:dC c=some c')(h2:dC x=some x')(h3:dC y=some y'){bb:Bool}(hb:st.rho c'= .b bb):
  dh P B st a w β M o (st.rho (if bb then x' else y')) []:=by
 have hc:=bZ c c' h1
 rw[hb]at hc;simp only[au]at hc
 cases bb
 ·exact aT h (cv:=a.eval y) (by simp[execOp,ho,hc,asBool]) (bZ y y' h3)
 ·exact aT h (cv:=a.eval x) (by simp[execOp,ho,hc,asBool]) (bZ x x' h2)
theorem OT{d nx:Nat}{x:Operand}{y:aZ}(ho:o.op= .nilCheck x)(hx:dC x=some y){v:T}(hq:(bC d st.rho (.nck y)).run st.get nx=some (.val v ups)):dh P B st a w β M o v ups:=by
 have hv:=bZ x y hx
 simp only[bC]at hq
 split at hq <;> simp[Q.run]at hq <;> obtain⟨rfl,rfl⟩:=hq <;> rename_i e
 ·rw[e]at hv
  refine aT h (cv:=a.eval x) ?_ hv
  simp only[au,PRel]at hv
  obtain⟨blk,off,h1,_⟩:=hv
  simp[execOp,ho,h1]
 ·rw[e]at hv
  refine aT h (cv:=a.eval x) ?_ hv
  simp only[au]at hv
  simp[execOp,ho,hv.2]
 ·rw[e]at hv
  refine aT h (cv:=a.eval x) ?_ hv
  simp only[au]at hv
  obtain⟨fa,fc,h1,_⟩:=hv
  simp[execOp,ho,h1]
end
end Go.Ev
namespace Go.Ev
open Go
theorem Bb(k:IntKind)(n:Int):wr k n=k.wrap n:=by
 unfold wr
 split
 ·rename_i h
  cases k <;> simp only[lo,hi]at h <;> simp[IntKind.wrap,IntKind.bits,IntKind.signed] <;> omega
 ·rfl
theorem cP(x:ByteArray):cp x=x.toList.map UInt8.toNat:=by rw[ByteArray.toList_eq];rfl
theorem eD: ∀(a b:List UInt8),(a.map UInt8.toNat==b.map UInt8.toNat)=(a==b)
 | [],[]=>rfl
 | [],_::_=>rfl
 |_::_,[]=>rfl
 |x::xs,y::ys=>by
  simp only[List.map_cons,List.cons_beq_cons,eD xs ys]
  congr 1
  rw[Bool.eq_iff_iff];simp[UInt8.toNat_inj]
theorem ri: ∀(a b:List UInt8),cg (a.map UInt8.toNat) (b.map UInt8.toNat)=Op.bytesLess a b
 | [],[]=>rfl
 | [],_::_=>rfl
 |_::_,[]=>rfl
 |x::xs,y::ys=>by
  simp only[List.map_cons,cg,Op.bytesLess,ri xs ys]
  have h1:decide (x.toNat<y.toNat)=decide (x<y):=by rw[Bool.eq_iff_iff];simp[UInt8.lt_iff_toNat_lt]
  have h2:(x.toNat==y.toNat)=(x==y):=by rw[Bool.eq_iff_iff];simp[UInt8.toNat_inj]
  rw[h1,h2]
theorem eg(x:ByteArray):(cp x).length=x.size:=by
 unfold cp;rw[List.length_map,Array.length_toList];rfl
theorem sV(x y:ByteArray):cp (x++y)=cp x++cp y:=by simp[cp,ByteArray.data_append]
section
variable{P:Program}{B:dP}{st:St}{a:Act}{w:World}{β:aS}{M:aI}{o:Oper}{v:T}{ups:List Up}
theorem au.int{k:IntKind}{n:Int}{cv:Value}{G:Sp→Nat→Nat}(h:au β G w M (.i k n) cv):cv= .int k n:=by simpa only[au]using h
theorem au.str{l:List Nat}{cv:Value}{G:Sp→Nat→Nat}(h:au β G w M (.s l) cv): ∃bs,cv= .string bs∧cp bs=l:=by simpa only[au]using h
theorem au.bool{x:Bool}{cv:Value}{G:Sp→Nat→Nat}(h:au β G w M (.b x) cv):cv= .bool x:=by simpa only[au]using h
theorem I1{op:BinOp}{k:IntKind}{x y:Int}{t:TypeId}{r:T}(h:kh op k x y=some r)(hs:op≠ .shl∧op≠ .shr): ∃cv,(binOp op t (.int k x) (.int k y)).run P w= .ok cv w∧ ∀G,au β G w M r cv:=by
 cases op <;> simp only[kh,Option.some.injEq]at h <;> try (subst h)
 all_goals first
  |exact absurd rfl hs.1
  |exact absurd rfl hs.2
  |skip
 case quo=>
  split at h
  ·cases h
  ·rename_i hy
   simp at h;subst h
   exact⟨_,by simp[binOp,Op.intDiv,hy];rfl,fun G=>by simp[au,Bb]⟩
 case rem=>
  split at h
  ·cases h
  ·rename_i hy
   simp at h;subst h
   exact⟨_,by simp[binOp,Op.intDiv,hy];rfl,fun G=>by simp[au]⟩
 all_goals first
  |exact⟨_,by simp[binOp,Op.intArith,Op.intBits,Op.intCmp];rfl,fun G=>by simp[au,Bb]⟩
  |cases h
theorem tA{op:BinOp}{k k':IntKind}{x y:Int}{t:TypeId}{r:T}(h:qZ op k x y=some r): ∃cv,(binOp op t (.int k x) (.int k' y)).run P w= .ok cv w∧ ∀G,au β G w M r cv:=by
 unfold qZ at h
 split at h
 ·cases h
 ·rename_i hy
  cases op <;> simp at h <;> subst h
  ·exact⟨_,by simp[binOp,Op.shift,hy];rfl,fun G=>by simp[au]⟩
  ·exact⟨_,by simp[binOp,Op.shift,hy];rfl,fun G=>by simp[au]⟩
theorem I2{op:BinOp}{x y:ByteArray}{t:TypeId}{r:T}(h:CE op (cp x) (cp y)=some r): ∃cv,(binOp op t (.string x) (.string y)).run P w= .ok cv w∧ ∀G,au β G w M r cv:=by
 have e1:(cp x==cp y)=(x.toList==y.toList):=by rw[cP,cP,eD]
 have e2:cg (cp x) (cp y)=Op.bytesLess x.toList y.toList:=by rw[cP,cP,ri]
 have e3:(cp x != cp y)= !(x.toList==y.toList):=by rw[bne,e1]
 cases op <;> simp only[CE]at h <;> try (cases h;done)
 case add=>
  split at h
  ·rename_i hl
   simp at h;subst h
   rw[eg,eg]at hl
   have: ¬(((x.size+y.size:Nat):Int)>IntKind.i64.max):=by simp[IntKind.max,IntKind.signed,IntKind.bits];omega
   exact⟨.string (x++y),by simp only[binOp,Op.stringOp,this,if_false];rfl,fun G=>by simp only[au];exact⟨_,rfl,sV x y⟩⟩
  ·cases h
 all_goals
  simp only[Option.some.injEq]at h
  subst h
  refine⟨_,by simp only[binOp,Op.stringOp];rfl,fun G=> ?_⟩
  simp only[au,e1,e2,e3]
variable(bZ:iw β st.gens w M st.rho a.eval)(h:bf B st w β M)
include bZ h
theorem OU{op:BinOp}{t t':TypeId}{x y:Operand}{x' y':aZ}(ho:o.op= .binOp op t x y t')(hx:dC x=some x')(hy:dC y=some y')(hq:Ev.bin op (st.rho x') (st.rho y')=some v):dh P B st a w β M o v []:=by
 have vx:=bZ x x' hx
 have vy:=bZ y y' hy
 generalize st.rho x'=tx at*
 generalize st.rho y'=ty at*
 have zj: ∀k k' m n,(eqGuard op t x y (.int k m) (.int k' n)).run P w= .ok () w:=by intro k k' m n;cases op <;> simp[eqGuard]
 have OV: ∀m n,(eqGuard op t x y (.string m) (.string n)).run P w= .ok () w:=by intro m n;cases op <;> simp[eqGuard]
 unfold Ev.bin at hq
 split at hq
 ·rename_i k1 a1 k2 b1
  have e1:=vx.int;have e2:=vy.int
  obtain⟨cv,r1,r2⟩:=tA (P:=P) (w:=w) (β:=β) (M:=M) (t:=t) (k':=k2) hq
  exact aT h (cv:=cv) (by simp[execOp,ho,e1,e2,zj,r1]) (r2 _)
 ·rename_i k1 a1 k2 b1
  have e1:=vx.int;have e2:=vy.int
  obtain⟨cv,r1,r2⟩:=tA (P:=P) (w:=w) (β:=β) (M:=M) (t:=t) (k':=k2) hq
  exact aT h (cv:=cv) (by simp[execOp,ho,e1,e2,zj,r1]) (r2 _)
 ·rename_i rj sW
  split at hq
  ·rename_i hk
   subst hk
   have e1:=vx.int;have e2:=vy.int
   obtain⟨cv,r1,r2⟩:=I1 (P:=P) (w:=w) (β:=β) (M:=M) (t:=t) hq ⟨fun e=>rj e,fun e=>sW e⟩
   exact aT h (cv:=cv) (by simp[execOp,ho,e1,e2,zj,r1]) (r2 _)
  ·cases hq
 ·obtain⟨bx,e1,rfl⟩:=vx.str
  obtain⟨bY,e2,rfl⟩:=vy.str
  obtain⟨cv,r1,r2⟩:=I2 (P:=P) (w:=w) (β:=β) (M:=M) (t:=t) hq
  exact aT h (cv:=cv) (by simp[execOp,ho,e1,e2,OV,r1]) (r2 _)
 ·cases hq
theorem S1{op:UnOp}{t:TypeId}{x:Operand}{x':aZ}(ho:o.op= .unOp op t x)(hx:dC x=some x')(hq:Ev.un op (st.rho x')=some v):dh P B st a w β M o v []:=by
 have vx:=bZ x x' hx
 generalize st.rho x'=tx at*
 unfold Ev.un at hq
 split at hq
 ·simp at hq;subst hq
  exact aT h (cv:=_) (by simp[execOp,ho,vx.int,Op.unary,Op.intArith];rfl) (by simp[au,Bb])
 ·simp at hq;subst hq
  exact aT h (cv:=_) (by simp[execOp,ho,vx.bool,Op.unary];rfl) (by simp only[au])
 ·rename_i k n
  simp only[kh,Option.some.injEq]at hq;subst hq
  exact aT h (cv:= .int k (k.wrap (BitVec.ofInt k.bits (if k.signed then-1 else k.max) ^^^ BitVec.ofInt k.bits n).toNat)) (by simp only[execOp,ho,vx.int,Op.unary,Op.intBits];rfl) (by simp only[au])
 ·cases hq
theorem OW{s t:TypeId}{k:IntKind}{x:Operand}{x':aZ}(ho:o.op= .convert s t x)(hx:dC x=some x')(hs: ∃k',P.underlying s=some (.int k'))(ht:P.underlying t=some (.int k)){k':IntKind}{n:Int}(hv:st.rho x'= .i k' n):
  dh P B st a w β M o (.i k (wr k n)) []:=by
 have vx:=bZ x x' hx
 rw[hv]at vx
 obtain⟨ks,hs⟩:=hs
 exact aT h (cv:= .int k (k.wrap n)) (by simp[execOp,ho,vx.int,convert,run_underlying hs,run_underlying ht,Conv.intToInt]) (by simp only[au,Bb])
omit h in
theorem lZ: ∀{xs:List Operand} {ys:List aZ},oQ xs=some ys→av β st.gens w M (ys.map st.rho) (xs.map a.eval)
 | [],ys,h=>by simp[oQ]at h;subst h;simp[av]
 |x::xs,ys,h=>by
  simp only[oQ]at h
  split at h
  ·rename_i y ys' h1 h2
   simp at h;subst h
   simp only[List.map_cons,av]
   exact⟨_,_,rfl,bZ x y h1,lZ h2⟩
  ·cases h
theorem I3{f:FuncId}{first cap:Array Operand}{fs cs:List aZ}(ho:o.op= .makeFunc (.func f) first cap)(h1:oQ first.toList=some fs)(h2:oQ cap.toList=some cs):
  dh P B st a w β M o (.fn f (fs.map st.rho) (cs.map st.rho)) []:=
 aT h (cv:= .func (.func f) (first.map a.eval) (cap.map a.eval)) (by simp[execOp,ho,Instr.makeFunc]) (by
  simp only[au]
  exact⟨_,_,rfl,by simpa using lZ bZ h1,by simpa using lZ bZ h2⟩)
theorem OX{x:Operand}{x':aZ}{j:Nat}(ho:o.op= .extract x j)(hx:dC x=some x'){vs:List T}(hv:st.rho x'= .tup vs)(hj:vs[j]? =some v):dh P B st a w β M o v []:=by
 have vx:=bZ x x' hx
 rw[hv]at vx
 simp only[au]at vx
 obtain⟨arr,e,hl⟩:=vx
 obtain⟨cv,c1,c2⟩:=hl.get hj
 have S2:arr[j]? =some cv:=by simpa using c1
 exact aT h (cv:=cv) (by simp[execOp,ho,e,Instr.extract,S2]) c2
end
end Go.Ev
namespace Go.Ev
open Go
theorem eO{P:Program}{t:TypeId}{n:Nat}(h:dt P t=some n)(w:World):(sizeOf t).run P w= .ok n w:=by
 unfold dt at h
 cases hi:P.info? t with
 |none=>simp[hi]at h
 |some i=>simp[hi]at h;simp[sizeOf,typeInfo,hi,h]
theorem lC{P:Program}{t:TypeId}{ag:Bool}(h:mr P t=some ag)(w:World):(isAgg t).run P w= .ok ag w:=by
 unfold mr at h
 cases hu:P.underlying t with
 |none=>simp[hu]at h
 |some d=>
  simp only[hu,Option.map_some,Option.some.injEq]at h
  unfold isAgg
  simp only[Sem.run_bind,run_underlying hu,Result.andThen_ok]
  cases d <;> simp at h <;> subst h <;> rfl
theorem wQ{P:Program}{β:aS}{G:Sp→Nat→Nat}{w:World}{M:aI}{t:TypeId}{off n:Nat}{ag:Bool}{cs:List T}{arr:Array Value}{v:T}(hn:dt P t=some n)(ha:mr P t=some ag)
  (hl:av β G w M cs arr.toList) (hs:cs.all single=true) (h:Ev.part cs off n ag=some v): ∃cv,(Go.part t arr off).run P w= .ok cv w∧au β G w M v cv:=by
 unfold Ev.part at h
 unfold Go.part
 simp only[Sem.run_bind,lC ha,Result.andThen_ok]
 cases ag with
 |true=>
  simp only[if_true]at h ⊢
  split at h
  ·rename_i hle
   simp at h;subst h
   refine⟨.agg (arr.extract off (off+n)),by simp[eO hn], ?_⟩
   simp only[au]
   refine⟨_,rfl, ?_,fh hs _ _⟩
   have:=av.take n (av.drop off hl)
   have e:(arr.extract off (off+n)).toList=(arr.toList.drop off).take n:=by
    rw[Array.toList_extract,List.extract_eq_take_drop];congr 1;omega
   rw[e];exact this
  ·cases h
 |false=>
  simp only[Bool.false_eq_true,if_false]at h ⊢
  obtain⟨cv,c1,c2⟩:=hl.get h
  have S2:arr[off]? =some cv:=by simpa using c1
  exact⟨cv,by simp[S2],c2⟩
theorem dZ(b o n:Nat):(⟨b,o,none⟩:Addr).add n=⟨b,o+n,none⟩:=by unfold Addr.add;split <;> simp_all
theorem aP.drop{w:World}{M:aI}{blk:Nat}: ∀{off:Nat} {ts:List T} (n:Nat),aP w M blk off ts→n≤ts.length→aP w M blk (off+n) (ts.drop n)
 |off,ts,0,h,_=>by simpa using h
 |off,[],n+1,h,hl=>by simp at hl
 |off,c::cs,n+1,h,hl=>by
  simp only[aP]at h
  have:=aP.drop n h.2 (by simpa using hl)
  rw[show off+(n+1)=off+1+n by omega]
  simpa using this
theorem aP.take{w:World}{M:aI}{blk:Nat}: ∀{off:Nat} {ts:List T} (n:Nat),aP w M blk off ts→aP w M blk off (ts.take n)
 |off,ts,0,h=>by simp[aP]
 |off,[],n+1,h=>by simp[aP]
 |off,c::cs,n+1,h=>by
  simp only[aP]at h
  simp only[List.take_succ_cons,aP]
  exact⟨h.1,aP.take n h.2⟩
theorem aP.load{P:Program}{w:World}{M:aI}{blk:Nat}: ∀{off:Nat} {ts:List T},aP w M blk off ts→ ∃vs:List Value,vs.length=ts.length∧(∀j v,vs[j]? =some v→w.cell? ⟨blk,off+j,none⟩=some v)∧PList w M ts vs∧ts.all single=true
 |off,[],h=>⟨[],rfl,by simp,by simp[PList],rfl⟩
 |off,c::cs,h=>by
  simp only[aP]at h
  obtain⟨⟨v,h1,_,h3,h4⟩,h2⟩:=h
  obtain⟨vs,e1,e2,e3,e4⟩:=aP.load (P:=P) h2
  refine⟨v::vs,by simp[e1],fun j u hu=> ?_, ?_,by simp[h4,e4]⟩
  ·cases j with
   |zero=>simp at hu;subst hu;exact h1
   |succ j=>rw[show off+(j+1)=off+1+j by omega];exact e2 j u (by simpa using hu)
  ·simp only[PList];exact⟨v,vs,rfl,h3,e3⟩
theorem wR{P:Program}{β:aS}{G:Sp→Nat→Nat}{w:World}{M:aI}{t:TypeId}{n:Nat}{ag:Bool}{blk off o:Nat}{cs:List T}{vs:List Value}{v:T}(hn:dt P t=some n)(ha:mr P t=some ag)
  (hc: ∀j u,vs[j]? =some u→w.cell? ⟨blk,off+j,none⟩=some u) (hl:av β G w M cs vs) (hs:cs.all single=true) (h:Ev.part cs o n ag=some v):
  ∃cv,(loadVar t ⟨blk,off+o,none⟩).run P w= .ok cv w∧au β G w M v cv:=by
 unfold Ev.part at h
 unfold loadVar
 simp only[Sem.run_bind,lC ha,Result.andThen_ok]
 cases ag with
 |true=>
  simp only[if_true]at h ⊢
  split at h
  ·rename_i hle
   simp at h;subst h
   have hlen:=av.length _ _ hl
   have jX:((vs.drop o).take n).length=n:=by simp;omega
   have:=run_loadCells_list (P:=P) w ⟨blk,off+o,none⟩ ((vs.drop o).take n) (fun j u hu=>by
    rw[dZ]
    rw[List.getElem?_take]at hu
    split at hu
    ·rw[List.getElem?_drop]at hu
     rw[Nat.add_assoc];exact hc _ _ hu
    ·cases hu)
   rw[jX]at this
   refine⟨.agg ((vs.drop o).take n).toArray,by simp[eO hn,this], ?_⟩
   simp only[au]
   exact⟨_,rfl,by simpa using av.take n (av.drop o hl),fh hs _ _⟩
  ·cases h
 |false=>
  simp only[Bool.false_eq_true,if_false]at h ⊢
  obtain⟨cv,c1,c2⟩:=hl.get h
  exact⟨cv,by simp[Go.load,Sem.run,hc _ _ c1],c2⟩
section
variable{P:Program}{B:dP}{st:St}{a:Act}{w:World}{β:aS}{M:aI}{o:Oper}{v:T}{ups:List Up}
variable(bZ:iw β st.gens w M st.rho a.eval)(h:bf B st w β M)
include h
theorem wS{t:TypeId}{n nx:Nat}{ag:Bool}{x:T}{cx:Value}(hn:dt P t=some n)(ha:mr P t=some ag)(vx:au β st.gens w M x cx)(hq:(uO x n ag).run st.get nx=some v):
  ∃ad cv,cx= .pointer (some ad)∧(loadVar t ad).run P w= .ok cv w∧au β st.gens w M v cv:=by
 unfold uO at hq
 split at hq
 ·rename_i cs
  simp only[au,PRel]at vx
  obtain⟨blk,off,rfl,hc⟩:=vx
  obtain⟨vs,_,e2,e3,e4⟩:=aP.load (P:=P) hc
  cases hp:Ev.part cs 0 n ag with
  |none=>simp[hp,Q.of,Q.run]at hq
  |some v'=>
   simp[hp,Q.of,Q.run]at hq;subst hq
   obtain⟨cv,r1,r2⟩:=wR (P:=P) (β:=β) (G:=st.gens) (M:=M) hn ha e2 (PList.toV _ _ _ _ e3) e4 hp
   exact⟨_,cv,rfl,by simpa using r1,r2⟩
 ·rename_i sp k g off
  simp only[Q.run]at hq
  split at hq
  ·rename_i hg
   have ho:=h.obj sp k
   generalize he:st.get sp k=e at*
   obtain⟨ge,ob⟩:=e
   dsimp only at hg;subst hg
   cases ob with
   |none=>simp[Q.run]at hq
   |map _ _ _=>simp[Q.run]at hq
   |cells cs wm bx=>
    dsimp only at hq
    cases hp:Ev.part cs off n ag with
    |none=>simp[hp,Q.of,Q.run]at hq
    |some v'=>
     simp[hp,Q.of,Q.run]at hq;subst hq
     unfold dg at ho
     obtain⟨c,el,fz,h1,h2,h3,h4,h5,h6,h7⟩:=ho
     dsimp only at h1 h2 h3 h5
     have Bc:av β st.gens w M cs ((c.toList.drop (β sp k ge).off).take cs.length):=by
      exact h5.toV
     simp only[au]at vx
     obtain⟨_,rfl⟩:=vx
     have Fp: ∀j u,((c.toList.drop (β sp k ge).off).take cs.length)[j]? =some u→w.cell? ⟨(β sp k ge).blk,(β sp k ge).off+j,none⟩=some u:=by
      intro j u hu
      rw[List.getElem?_take]at hu
      split at hu
      ·rw[List.getElem?_drop]at hu
       unfold World.cell?;rw[h1];simpa using hu
      ·cases hu
     obtain⟨cv,r1,r2⟩:=wR (P:=P) hn ha Fp Bc h7.1 hp
     exact⟨_,cv,rfl,r1,r2⟩
  ·simp[Q.run]at hq
 ·simp[Q.run]at hq
include bZ
theorem S3{d nx:Nat}{t:TypeId}{x:Operand}{x':aZ}{n:Nat}{ag:Bool}(ho:o.op= .load t x)(hx:dC x=some x')(hn:dt P t=some n)(ha:mr P t=some ag)
  (hq:(bC d st.rho (.ld x' n ag)).run st.get nx=some (.val v ups)):dh P B st a w β M o v ups:=by
 simp only[bC,Q.run_bind]at hq
 cases hl:(uO (st.rho x') n ag).run st.get nx with
 |none=>simp[hl]at hq
 |some v'=>
  simp[hl,Q.run]at hq
  obtain⟨rfl,rfl⟩:=hq
  obtain⟨ad,cv,e,r1,r2⟩:=wS (P:=P) h hn ha (bZ x x' hx) hl
  exact aT h (cv:=cv) (by simp[execOp,ho,e,Instr.loadAt,Instr.sureAddr,r1]) r2
theorem S4{d nx:Nat}{s:TypeId}{x:Operand}{x':aZ}{f n:Nat}{fs:Array Field}{fd:Field}(ho:o.op= .fieldAddr s x f)(hx:dC x=some x')(hs:P.underlying s=some (.struct fs))(hf:fs[f]? =some fd)(hn:dt P fd.type=some n)(h0:n≠0)
  (hq:(bC d st.rho (.fa x' fd.offset)).run st.get nx=some (.val v ups)):dh P B st a w β M o v ups:=by
 have vx:=bZ x x' hx
 have run: ∀blk off,a.eval x= .pointer (some ⟨blk,off,none⟩)→(execOp a.eval o).run P w= .ok (.value (.pointer (some ⟨blk,off+fd.offset,none⟩))) w:=by
  intro blk off e
  simp[execOp,ho,e,Instr.fieldAt,run_underlying hs,hf,Instr.sureAddr,fieldPlace,eO hn,h0,dZ]
 simp only[bC]at hq
 split at hq
 ·rename_i cs e
  split at hq
  ·rename_i hle
   simp[Q.run]at hq;obtain⟨rfl,rfl⟩:=hq
   rw[e]at vx
   simp only[au,PRel]at vx
   obtain⟨blk,off,e1,hc⟩:=vx
   refine aT h (run blk off e1) ?_
   simp only[au,PRel]
   exact⟨blk,_,rfl,aP.drop _ hc hle⟩
  ·simp[Q.run]at hq
 ·rename_i sp k g off e
  simp[Q.run]at hq;obtain⟨rfl,rfl⟩:=hq
  rw[e]at vx
  simp only[au]at vx
  refine aT h (run _ _ vx.2) ?_
  simp only[au]
  exact⟨vx.1,by rw[Nat.add_assoc]⟩
 ·simp[Q.run]at hq
theorem OY{d nx:Nat}{s:TypeId}{x:Operand}{x':aZ}{f n:Nat}{ag:Bool}{fs:Array Field}{fd:Field}(ho:o.op= .field s x f)(hx:dC x=some x')(hs:P.underlying s=some (.struct fs))(hf:fs[f]? =some fd)(hn:dt P fd.type=some n)(ha:mr P fd.type=some ag)
  (hq:(bC d st.rho (.fld x' fd.offset n ag)).run st.get nx=some (.val v ups)):dh P B st a w β M o v ups:=by
 have vx:=bZ x x' hx
 simp only[bC]at hq
 split at hq
 ·rename_i cs e
  rw[e]at vx
  simp only[au]at vx
  obtain⟨arr,e1,hl,rj⟩:=vx
  cases hp:Ev.part cs fd.offset n ag with
  |none=>simp[hp,Ev.val,Q.run]at hq
  |some v'=>
   simp[hp,Ev.val,Q.run]at hq;obtain⟨rfl,rfl⟩:=hq
   obtain⟨cv,r1,r2⟩:=wQ (P:=P) hn ha hl rj hp
   exact aT h (cv:=cv) (by simp[execOp,ho,e1,Instr.field,run_underlying hs,hf,asAgg,r1]) r2
 ·simp[Q.run]at hq
theorem OZ{d nx:Nat}{t e:TypeId}{x j:Operand}{x' j':aZ}{len n:Nat}{ag:Bool}(ho:o.op= .index t x j)(hx:dC x=some x')(hj:dC j=some j')(ht:P.underlying t=some (.array len e))(hn:dt P e=some n)(ha:mr P e=some ag)
  (hq:(bC d st.rho (.ixA x' j' len n ag)).run st.get nx=some (.val v ups)):dh P B st a w β M o v ups:=by
 have vx:=bZ x x' hx
 have vj:=bZ j j' hj
 simp only[bC]at hq
 split at hq
 ·rename_i jn cs e1 e2
  rw[e2]at vx
  simp only[au]at vx
  obtain⟨arr,e3,hl,rj⟩:=vx
  split at hq
  ·rename_i dG
   cases hp:Ev.part cs (jn*n) n ag with
   |none=>simp[hp,Ev.val,Q.run]at hq
   |some v'=>
    simp[hp,Ev.val,Q.run]at hq;obtain⟨rfl,rfl⟩:=hq
    unfold asNat at e1
    split at e1
    ·rename_i k m em
     split at e1
     ·rename_i hm
      simp at e1;subst e1
      rw[em]at vj
      have ej:=vj.int
      obtain⟨cv,r1,r2⟩:=wQ (P:=P) hn ha hl rj hp
      have:0≤m∧m<(len:Int):=by omega
      exact aT h (cv:=cv) (by simp[execOp,ho,e3,ej,Instr.index,run_underlying ht,asIntOf,this,eO hn,r1]) r2
     ·cases e1
    ·cases e1
  ·simp[Q.run]at hq
 ·simp[Q.run]at hq
omit h bZ in
theorem fB{t:T}{n:Nat}(e:asNat t=some n): ∃k m,t= .i k m∧0≤m∧m.toNat=n:=by
 unfold asNat at e
 split at e
 ·rename_i k m
  split at e
  ·rename_i hm;simp at e;exact⟨k,m,rfl,hm,e⟩
  ·cases e
 ·cases e
theorem O0{d nx:Nat}{t:TypeId}{x j:Operand}{x' j':aZ}(ho:o.op= .index t x j)(hx:dC x=some x')(hj:dC j=some j')(ht:P.underlying t=some .string)
  (hq:(bC d st.rho (.ixS x' j')).run st.get nx=some (.val v ups)):dh P B st a w β M o v ups:=by
 have vx:=bZ x x' hx
 have vj:=bZ j j' hj
 simp only[bC]at hq
 split at hq
 ·rename_i jn bs e1 e2
  rw[e2]at vx
  obtain⟨arr,e3,rfl⟩:=vx.str
  obtain⟨k,m,em,hm,rfl⟩:=fB e1
  rw[em]at vj
  have ej:=vj.int
  split at hq
  ·rename_i c hc
   simp[Q.run]at hq;obtain⟨rfl,rfl⟩:=hq
   unfold cp at hc
   rw[List.getElem?_map,Option.map_eq_some_iff]at hc
   obtain⟨u,hu,rfl⟩:=hc
   have zk:arr[m.toNat]? =some u:=by
    have:arr.data[m.toNat]? =some u:=by simpa using hu
    have dG:=(Array.getElem?_eq_some_iff.1 this).1
    have:arr.data[m.toNat]=u:=(Array.getElem?_eq_some_iff.1 this).2
    show(if h:m.toNat<arr.size then some arr[m.toNat]else none)=some u
    have nw:m.toNat<arr.size:=dG
    rw[dif_pos nw];exact congrArg some this
   exact aT h (cv:= .int .u8 u.toNat) (by simp[execOp,ho,e3,ej,Instr.index,run_underlying ht,asIntOf,hm,zk]) (by simp only[au])
  ·simp[Q.run]at hq
 ·simp[Q.run]at hq
theorem S5{d nx:Nat}{t e:TypeId}{x j:Operand}{x' j':aZ}{n:Nat}(ho:o.op= .indexAddr t x j)(hx:dC x=some x')(hj:dC j=some j')(ht:P.underlying t=some (.slice e))(hn:dt P e=some n)
  (hq:(bC d st.rho (.ia x' j' n)).run st.get nx=some (.val v ups)):dh P B st a w β M o v ups:=by
 have vx:=bZ x x' hx
 have vj:=bZ j j' hj
 have run: ∀(blk off len cap:Nat) k (m:Int),a.eval x= .slice (some ⟨blk,off,none⟩) len cap→a.eval j= .int k m→0≤m→m.toNat<len→(execOp a.eval o).run P w= .ok (.value (.pointer (some ⟨blk,off+m.toNat*n,none⟩))) w:=by
  intro blk off len cap k m e1 e2 h1 h2
  have:0≤m∧m<(len:Int):=by omega
  simp[execOp,ho,e1,e2,Instr.indexAt,run_underlying ht,asIntOf,this,eO hn,dZ]
 simp only[bC]at hq
 split at hq
 ·rename_i jn cs len ex e1 e2
  split at hq
  ·rename_i hc
   simp[Q.run]at hq;obtain⟨rfl,rfl⟩:=hq
   simp at hc
   obtain⟨k,m,em,hm,rfl⟩:=fB e1
   rw[e2]at vx;rw[em]at vj
   simp only[au,PRel]at vx
   obtain⟨blk,off,cap,sp,e3,h1,h2,h5,h3⟩:=vx
   obtain rfl:sp=none:=h5.resolve_right (by have:=hc.1;omega)
   refine aT h (run _ _ _ _ _ _ e3 vj.int hm hc.1) ?_
   simp only[au,PRel]
   exact⟨_,_,rfl,aP.drop _ h3 (by have:=hc.2;rw[Nat.add_mul]at this;omega)⟩
  ·simp[Q.run]at hq
 ·rename_i jn sp k g off len sz e1 e2
  split at hq
  ·rename_i hc
   simp[Q.run]at hq;obtain⟨rfl,rfl⟩:=hq
   simp at hc
   obtain⟨kk,m,em,hm,rfl⟩:=fB e1
   rw[e2]at vx;rw[em]at vj
   simp only[au]at vx
   obtain⟨h1,cap,e3,h2,h3⟩:=vx
   refine aT h (run _ _ _ _ _ _ e3 vj.int hm hc.1) ?_
   simp only[au]
   exact⟨h1,by rw[Nat.add_assoc]⟩
  ·simp[Q.run]at hq
 ·simp[Q.run]at hq
theorem O1{d nx:Nat}{t e:TypeId}{x j:Operand}{x' j':aZ}{len n:Nat}(ho:o.op= .indexAddr t x j)(hx:dC x=some x')(hj:dC j=some j')(ht:P.underlying t=some (.array len e))(hn:dt P e=some n)
  (hq:(bC d st.rho (.iaA x' j' len n)).run st.get nx=some (.val v ups)):dh P B st a w β M o v ups:=by
 have vx:=bZ x x' hx
 have vj:=bZ j j' hj
 have run: ∀(blk off:Nat) k (m:Int),a.eval x= .pointer (some ⟨blk,off,none⟩)→a.eval j= .int k m→0≤m→m.toNat<len→(execOp a.eval o).run P w= .ok (.value (.pointer (some ⟨blk,off+m.toNat*n,none⟩))) w:=by
  intro blk off k m e1 e2 h1 h2
  have:0≤m∧m<(len:Int):=by omega
  simp[execOp,ho,e1,e2,Instr.indexAt,run_underlying ht,asIntOf,Instr.sureAddr,this,eO hn,dZ]
 simp only[bC]at hq
 split at hq
 ·rename_i jn cs e1 e2
  split at hq
  ·rename_i hc
   simp[Q.run]at hq;obtain⟨rfl,rfl⟩:=hq
   simp at hc
   obtain⟨k,m,em,hm,rfl⟩:=fB e1
   rw[e2]at vx;rw[em]at vj
   simp only[au,PRel]at vx
   obtain⟨blk,off,e3,h3⟩:=vx
   refine aT h (run _ _ _ _ e3 vj.int hm hc.1) ?_
   simp only[au,PRel]
   exact⟨_,_,rfl,aP.drop _ h3 (by have:=hc.2;rw[Nat.add_mul]at this;omega)⟩
  ·simp[Q.run]at hq
 ·rename_i jn sp k g off e1 e2
  split at hq
  ·rename_i hc
   simp[Q.run]at hq;obtain⟨rfl,rfl⟩:=hq
   obtain⟨kk,m,em,hm,rfl⟩:=fB e1
   rw[e2]at vx;rw[em]at vj
   simp only[au]at vx
   refine aT h (run _ _ _ _ vx.2 vj.int hm hc) ?_
   simp only[au]
   exact⟨vx.1,by rw[Nat.add_assoc]⟩
  ·simp[Q.run]at hq
 ·simp[Q.run]at hq
end
end Go.Ev
namespace Go.Ev
open Go
theorem rk(s:ByteArray)(l h:Nat):cp (s.extract l h)=((cp s).drop l).take (h-l):=by
 unfold cp
 rw[ByteArray.data_extract,Array.toList_extract,List.extract_eq_take_drop,List.map_take,List.map_drop]
theorem di{P:Program}{w:World}{k:IntKind}{m:Int}{y:Nat}{code:BoundsCode}(h1:0≤m)(h2:m.toNat≤y):(Instr.sliceBound (.int k m) y code).run P w= .ok m.toNat w:=by
 have:0≤m∧m≤(y:Int):=by omega
 simp[Instr.sliceBound,asIntOf,this]
section
variable{P:Program}{B:dP}{st:St}{a:Act}{w:World}{β:aS}{M:aI}{o:Oper}{v:T}{ups:List Up}
variable(bZ:iw β st.gens w M st.rho a.eval)(h:bf B st w β M)
include bZ in
theorem l0{x:Option Operand}{x':Option aZ}{IW n:Nat}(hx:k9 x=some x')(e:bk st.rho IW x'=some n):
  (x=none∧x'=none∧n=IW)∨ ∃y k m,x=some y∧a.eval y= .int k m∧0≤m∧m.toNat=n:=by
 cases x with
 |none=>simp[k9]at hx;subst hx;simp[bk]at e;exact .inl ⟨rfl,rfl,e.symm⟩
 |some y=>
  simp only[k9,Option.map_eq_some_iff]at hx
  obtain⟨y',hy,rfl⟩:=hx
  simp only[bk]at e
  obtain⟨k,m,em,hm,hn⟩:=fB e
  have:=bZ y y' hy
  rw[em]at this
  exact .inr ⟨y,k,m,rfl,this.int,hm,hn⟩
include bZ in
theorem kU{lo hi:Option Operand}{I4 sX:Option aZ}{Yr:Bool}{len cap l hh:Nat}(h1:k9 lo=some I4)(h2:k9 hi=some sX)(e1:bk st.rho 0 I4=some l)(e2:bk st.rho len sX=some hh)
  (hl:l≤hh) (hc:hh≤len) (Q7:len≤cap):(Instr.sliceBounds Yr len cap (lo.map a.eval) (hi.map a.eval) none).run P w= .ok (l,hh,cap) w:=by
 unfold Instr.sliceBounds
 rcases l0 bZ h1 e1 with⟨rfl,rfl,rfl⟩|⟨y,k,m,rfl,ey,hm,rfl⟩ <;> rcases l0 bZ h2 e2 with⟨rfl,rfl,rfl⟩|⟨y2,k2,m2,rfl,S6,A3,rfl⟩
 ·simp
 ·simp[S6,di A3 (Nat.le_trans hc Q7)]
 ·simp[ey,di hm hl]
 ·simp[ey,S6,di A3 (Nat.le_trans hc Q7),di hm hl]
include bZ h
theorem O2{d nx:Nat}{t:TypeId}{x:Operand}{x':aZ}{lo hi:Option Operand}{I4 sX:Option aZ}(ho:o.op= .slice t x lo hi none)(hx:dC x=some x')(h1:k9 lo=some I4)(h2:k9 hi=some sX)(ht:P.underlying t=some .string)
  (hq:(bC d st.rho (.slS x' I4 sX)).run st.get nx=some (.val v ups)):dh P B st a w β M o v ups:=by
 have vx:=bZ x x' hx
 simp only[bC]at hq
 split at hq
 ·rename_i bs e
  rw[e]at vx
  obtain⟨s,es,rfl⟩:=vx.str
  split at hq
  ·rename_i l hh e1 e2
   split at hq
   ·rename_i hc
    simp at hc
    simp[Q.run]at hq;obtain⟨rfl,rfl⟩:=hq
    rw[eg]at e2 hc
    have hb:=kU (P:=P) (w:=w) (Yr:=false) bZ h1 h2 e1 e2 hc.1 hc.2 (Nat.le_refl _)
    refine aT h (cv:= .string (s.extract l hh)) ?_ (by simp only[au];exact⟨_,rfl,rk s l hh⟩)
    simp[execOp,ho,es,Instr.sliceAt,run_underlying ht,Instr.slice,hb]
   ·simp[Q.run]at hq
  ·simp[Q.run]at hq
 ·simp[Q.run]at hq
theorem O3{d nx:Nat}{t e:TypeId}{n:Nat}{x:Operand}{x':aZ}{lo hi mx:Option Operand}{I4 sX mx':Option aZ}(ho:o.op= .slice t x lo hi mx)(hx:dC x=some x')(h1:k9 lo=some I4)(h2:k9 hi=some sX)(h3:k9 mx=some mx')
  (ht:P.underlying t=some (.slice e)) (hn:dt P e=some n) (h0:n≠0) (O4:mx.isSome=true→hi.isSome=true)
  (hq:(bC d st.rho (.slV n x' I4 sX mx')).run st.get nx=some (.val v ups)):dh P B st a w β M o v ups:=by
 have vx:=bZ x x' hx
 simp only[bC]at hq
 cases hlen:jH (st.rho x')with
 |none=>simp[hlen,Q.run]at hq
 |some len=>
  simp only[hlen]at hq
  cases e1:bk st.rho 0 I4 with
  |none=>simp[e1,Q.run]at hq
  |some l=>
   cases e2:bk st.rho len sX with
   |none=>simp[e1,e2,Q.run]at hq
   |some hh=>
    cases mx with
    |none=>
     simp[k9]at h3;subst h3
     simp only[e1,e2,Q.run_bind]at hq
     have run: ∀(ad:Option Addr) cap,a.eval x= .slice ad len cap→l≤hh→hh≤len→len≤cap→
       (execOp a.eval o).run P w= .ok (.value (.slice (if cap=l then ad else ad.map (·.add (l*n))) (hh-l) (cap-l))) w:=by
      intro ad cap ex ny wu S7
      have hb:=kU (P:=P) (w:=w) (Yr:=true) bZ h1 h2 e1 e2 ny wu S7
      simp[execOp,ho,ex,Instr.sliceAt,run_underlying ht,Instr.slice,hb,eO hn]
     cases hs:(pH n (st.rho x') l hh).run st.get nx with
     |none=>simp[hs]at hq
     |some v'=>
      simp[hs,Q.run]at hq;obtain⟨rfl,rfl⟩:=hq
      unfold pH at hs
      split at hs
      ·rename_i ex
       split at hs
       ·rename_i hc
        simp[Q.run]at hs;subst hs
        simp at hc;obtain⟨rfl,rfl⟩:=hc
        rw[ex]at vx hlen
        simp[jH]at hlen;subst hlen
        simp only[au]at vx
        refine aT h (run _ _ vx (Nat.le_refl _) (Nat.le_refl _) (Nat.le_refl _)) ?_
        simp[au]
       ·simp[Q.run]at hs
      ·rename_i cs CG ex' ex
       rw[ex]at vx hlen
       simp[jH]at hlen;subst hlen
       split at hs
       ·rename_i hc
        simp[Q.run]at hs;subst hs
        simp at hc
        obtain⟨⟨c1,c2⟩,c3⟩:=hc
        simp only[au,PRel]at vx
        obtain⟨blk,off,cap,sp,e3,p1,p2,p4,p3⟩:=vx
        refine aT h (run _ _ e3 c1 c2 p1) ?_
        simp only[au,PRel]
        by_cases sY:cap=l
        ·rw[if_pos sY]
         have:hh=l:=by omega
         subst this
         refine⟨blk,off,cap-hh,sp,by simp,by omega,fun hex=>by omega,.inr (by omega), ?_⟩
         simp[aP]
        ·rw[if_neg sY]
         obtain rfl:sp=none:=p4.resolve_right (by omega)
         refine⟨blk,off+l*n,cap-l,none,by simp[dZ],by omega,fun hex=> ?_,.inl rfl, ?_⟩
         ·simp at hex
          have:=p2 hex.1
          omega
         ·refine aP.take _ (aP.drop _ p3 ?_)
          rw[c3];exact Nat.mul_le_mul_right n (Nat.le_trans c1 c2)
       ·simp[Q.run]at hs
      ·rename_i sp k g off CG sz ex
       rw[ex]at vx hlen
       simp[jH]at hlen;subst hlen
       split at hs
       ·rename_i hc
        simp[Q.run]at hs;subst hs
        simp at hc
        obtain⟨⟨c1,c2⟩,rfl⟩:=hc
        simp only[au]at vx
        obtain⟨q1,cap,e3,p1,p2⟩:=vx
        refine aT h (run _ _ e3 c1 c2 p1) ?_
        by_cases hlh:l=hh
        ·subst hlh
         rw[if_pos rfl]
         simp only[au,PRel]
         by_cases sY:cap=l
         ·rw[if_pos sY]
          exact⟨(β sp k g).blk,(β sp k g).off+off,cap-l,none,by simp,by omega,(fun e=>by cases e),.inl rfl,by simp[aP]⟩
         ·rw[if_neg sY]
          exact⟨(β sp k g).blk,(β sp k g).off+off+l*sz,cap-l,none,by simp[dZ],by omega,(fun e=>by cases e),.inl rfl,by simp[aP]⟩
        ·rw[if_neg hlh,if_neg (by omega)]
         simp only[au]
         refine⟨q1,cap-l,by simp[dZ,Nat.add_assoc],by omega, ?_⟩
         have:(cap-l)*sz+l*sz=cap*sz:=by rw[←Nat.add_mul];congr 1;omega
         omega
       ·simp[Q.run]at hs
      ·simp[Q.run]at hs
    |some m=>
     simp only[k9,Option.map_eq_some_iff]at h3
     obtain⟨m',S8,rfl⟩:=h3
     have vm:=bZ m m' S8
     have run: ∀(ad:Option Addr) cap,a.eval x= .slice ad len cap→ ∀k (z:Int),a.eval m= .int k z→z=0→l=0→hh=0→
       (execOp a.eval o).run P w= .ok (.value (.slice ad 0 0)) w:=by
      intro ad cap ex k z em hz Ys hh0
      subst hz;subst Ys;subst hh0
      have hb:(Instr.sliceBounds true len cap (lo.map a.eval) (hi.map a.eval) (some (.int k 0))).run P w= .ok (0,0,0) w:=by
       unfold Instr.sliceBounds
       rcases l0 bZ h2 e2 with⟨rfl,rfl,VT⟩|⟨y2,k2,m2,rfl,S6,A3,hz2⟩
       ·simp at O4
       ·have b1:=di (P:=P) (w:=w) (k:=k) (m:=0) (y:=cap) (code:= .slice3Acap) (by omega) (by simp)
        have b2:=di (P:=P) (w:=w) (k:=k2) (m:=m2) (y:=0) (code:= .slice3B) A3 (by omega)
        rcases l0 bZ h1 e1 with⟨rfl,rfl,_⟩|⟨y,k1,m1,rfl,ey,hm,tB⟩
        ·simp[S6,b1,b2];omega
        ·have b3:=di (P:=P) (w:=w) (k:=k1) (m:=m1) (y:=m2.toNat) (code:= .slice3C) hm (by omega)
         simp[S6,ey,b1,b2,b3];omega
      cases ad <;> simp[execOp,ho,ex,em,Instr.sliceAt,run_underlying ht,Instr.slice,hb,eO hn]
     simp only[e1,e2]at hq
     cases em:asNat (st.rho m')with
     |none=>simp[em,Q.run]at hq
     |some z=>
      obtain⟨km,zm,ez,tB,hz2⟩:=fB em
      rw[ez]at vm
      have vm':=vm.int
      split at hq
      ·rename_i O5 ex
       rw[em]at O5
       simp at O5;subst O5
       rw[ex]at vx hlen
       simp only[au]at vx
       simp[jH]at hlen
       split at hq
       ·rename_i hc
        simp at hc
        simp[Q.run]at hq;obtain⟨rfl,rfl⟩:=hq
        exact aT h (run _ _ (by rw[vx,hlen]) km zm vm' (by omega) hc.1 hc.2) (by simp only[au])
       ·simp[Q.run]at hq
      ·rename_i O5 dr
       rw[em]at O5
       simp at O5;subst O5
       split at hq
       ·rename_i hc
        simp at hc
        simp[Q.run]at hq;obtain⟨rfl,rfl⟩:=hq
        have: ∃blk off cap sp,a.eval x= .slice (some ⟨blk,off,sp⟩) len cap:=by
         generalize st.rho x'=tx at*
         cases tx <;> simp[jH]at hlen
         case nilsl=>exact absurd rfl dr
         case sl cs CG ex=>
          subst hlen
          simp only[au,PRel]at vx
          obtain⟨blk,off,cap,sp,e3,_⟩:=vx
          exact⟨blk,off,cap,sp,e3⟩
         case isl sp k g off CG sz=>
          subst hlen
          simp only[au]at vx
          obtain⟨_,cap,e3,_⟩:=vx
          exact⟨_,_,cap,none,e3⟩
        obtain⟨blk,off,cap,sp,e3⟩:=this
        refine aT h (run _ _ e3 km zm vm' (by omega) hc.1 hc.2) ?_
        simp only[au,PRel]
        exact⟨blk,off,0,sp,rfl,Nat.le_refl _,fun _=>rfl,.inr rfl,by simp[aP]⟩
       ·simp[Q.run]at hq
      ·simp[Q.run]at hq
end
end Go.Ev
namespace Go.Ev
open Go
section
variable{P:Program}{B:dP}{st:St}{a:Act}{w:World}{β:aS}{M:aI}{o:Oper}{v:T}{ups:List Up}
theorem zl{isMax:Bool}{x y:T}{ys:List T}{r:T}(h:bu isMax x (y::ys)=some r): ∃k n,x= .i k n:=by
 unfold bu at h
 split at h
 ·simp at*
 ·exact⟨_,_,rfl⟩
 ·cases h
theorem cZ{c:Call}{b:Builtin}(ho:o.op= .call c)(hb:c.callee= .builtin b):
  (execOp a.eval o).run P w=(builtin b c.argTypes o.type (c.args.map fun| .const _=>true|_=>false) (c.args.map a.eval)).run P w:=by
 simp only[execOp,ho,resolve,hb,Sem.run_bind]
 rfl
theorem nz{args:Array Operand}{x:Operand}(h:args.toList= [x])(f:Operand→Value):args.map f= #[f x]:=by
 apply Array.ext';simp[h]
theorem I5{args:Array Operand}{x y:Operand}(h:args.toList= [x,y])(f:Operand→Value):args.map f= #[f x,f y]:=by
 apply Array.ext';simp[h]
variable(bZ:iw β st.gens w M st.rho a.eval)(h:bf B st w β M)
include bZ h
theorem I6{d nx:Nat}{c:Call}{t:TypeId}{x:Operand}{x':aZ}(ho:o.op= .call c)(hb:c.callee= .builtin .len)(ht:c.argTypes[0]? =some t)(ha:c.args.toList= [x])(hu:P.underlying t=some .string)(hx:dC x=some x')
  (hq:(bC d st.rho (.lenS x')).run st.get nx=some (.val v ups)):dh P B st a w β M o v ups:=by
 have vx:=bZ x x' hx
 simp only[bC]at hq
 split at hq
 ·rename_i bs e
  simp[Q.run]at hq;obtain⟨rfl,rfl⟩:=hq
  rw[e]at vx
  obtain⟨s,es,rfl⟩:=vx.str
  refine aT h (cv:= .int .i64 s.size) ?_ (by simp only[au,eg])
  rw[cZ ho hb,nz ha]
  simp[builtin,Builtin.len_,ht,es,run_underlying hu,goInt]
 ·simp[Q.run]at hq
theorem I7{d nx:Nat}{c:Call}{t e:TypeId}{x:Operand}{x':aZ}(ho:o.op= .call c)(hb:c.callee= .builtin .len)(ht:c.argTypes[0]? =some t)(ha:c.args.toList= [x])(hu:P.underlying t=some (.slice e))(hx:dC x=some x')
  (hq:(bC d st.rho (.lenV x')).run st.get nx=some (.val v ups)):dh P B st a w β M o v ups:=by
 have vx:=bZ x x' hx
 simp only[bC]at hq
 cases hl:jH (st.rho x')with
 |none=>simp[hl,Ev.val,Q.run]at hq
 |some n=>
  simp[hl,Ev.val,Q.run]at hq;obtain⟨rfl,rfl⟩:=hq
  have: ∃ad cap,a.eval x= .slice ad n cap:=by
   generalize st.rho x'=tx at*
   cases tx <;> simp[jH]at hl
   case nilsl=>subst hl;simp only[au]at vx;exact⟨_,_,vx⟩
   case sl cs CG ex=>subst hl;simp only[au,PRel]at vx;obtain⟨blk,off,cap,sp,e3,_⟩:=vx;exact⟨_,cap,e3⟩
   case isl sp k g off CG sz=>subst hl;simp only[au]at vx;obtain⟨_,cap,e3,_⟩:=vx;exact⟨_,cap,e3⟩
  obtain⟨ad,cap,e1⟩:=this
  refine aT h (cv:= .int .i64 n) ?_ (by simp only[au])
  rw[cZ ho hb,nz ha]
  simp[builtin,Builtin.len_,ht,e1,run_underlying hu,goInt]
theorem I8{d nx:Nat}{c:Call}{t kt et:TypeId}{x:Operand}{x':aZ}(ho:o.op= .call c)(hb:c.callee= .builtin .len)(ht:c.argTypes[0]? =some t)(ha:c.args.toList= [x])(hu:P.underlying t=some (.map kt et))(hx:dC x=some x')
  (hq:(bC d st.rho (.lenM x')).run st.get nx=some (.val v ups)):dh P B st a w β M o v ups:=by
 have vx:=bZ x x' hx
 have run: ∀blk es clock,a.eval x= .map (some blk)→w.heap[blk]? =some (.map es clock)→(execOp a.eval o).run P w= .ok (.value (.int .i64 es.size)) w:=by
  intro blk es clock e1 e2
  rw[cZ ho hb,nz ha]
  simp[builtin,Builtin.len_,ht,e1,run_underlying hu,goInt,getObj,Sem.run,e2]
 simp only[bC]at hq
 split at hq
 ·rename_i e
  simp[Q.run]at hq;obtain⟨rfl,rfl⟩:=hq
  rw[e]at vx;simp only[au]at vx
  refine aT h (cv:= .int .i64 0) ?_ (by simp only[au])
  rw[cZ ho hb,nz ha]
  simp[builtin,Builtin.len_,ht,vx,run_underlying hu,goInt]
 ·rename_i ks vs e
  simp[Q.run]at hq;obtain⟨rfl,rfl⟩:=hq
  rw[e]at vx;simp only[au,PRel]at vx
  obtain⟨blk,es,clock,e1,e2,_,_,e3,_⟩:=vx
  refine aT h (run blk es clock e1 e2) ?_
  simp only[au]
  have:=PList.length _ _ e3
  simp at this;rw[this]
 ·rename_i sp k g e
  simp only[Q.run]at hq
  split at hq
  ·rename_i hg
   have qq:=h.obj sp k
   generalize he:st.get sp k=en at*
   obtain⟨ge,ob⟩:=en
   dsimp only at hg;subst hg
   cases ob with
   |none=>simp[Q.run]at hq
   |cells _ _ _=>simp[Q.run]at hq
   |map ks vs f=>
    simp[Q.run]at hq;obtain⟨rfl,rfl⟩:=hq
    rw[e]at vx;simp only[au]at vx
    unfold dg at qq
    obtain⟨es,clock,e2,_,e3,_⟩:=qq
    refine aT h (run _ es clock vx.2 e2) ?_
    simp only[au]
    have:=PList.length _ _ e3
    simp at this;rw[this]
  ·simp[Q.run]at hq
 ·simp[Q.run]at hq
omit bZ in
theorem I9{c:Call}{t e:TypeId}{n:Nat}{x:Operand}(ho:o.op= .call c)(hb:c.callee= .builtin .len)(ht:c.argTypes[0]? =some t)(ha:c.args.toList= [x])(hu:P.underlying t=some (.array n e)):
  dh P B st a w β M o (.i .i64 n) []:=by
 refine aT h (cv:= .int .i64 n) ?_ (by simp only[au])
 rw[cZ ho hb,nz ha]
 simp[builtin,Builtin.len_,ht,run_underlying hu,goInt]
omit bZ h in
theorem Bd{k:IntKind}: ∀(rest:List T) (vs:List Value) (x:Int) (r:T),av β st.gens w M rest vs→bu false (.i k x) rest=some r→ ∃n,r= .i k n∧(vs.foldlM Builtin.min2 (.int k x)).run P w= .ok (.int k n) w
 | [],vs,x,r,hl,hm=>by
   simp only[av]at hl;subst hl
   simp[bu]at hm;subst hm
   exact⟨x,rfl,by simp⟩
 |t::ts,vs,x,r,hl,hm=>by
  simp only[av]at hl
  obtain⟨u,us,rfl,h1,h2⟩:=hl
  cases t <;> simp only[bu]at hm <;> try (cases hm;done)
  rename_i k' y
  split at hm
  ·rename_i hk;subst hk
   have:=h1.int;subst this
   obtain⟨n,e1,e2⟩:=Bd ts us _ r h2 hm
   refine⟨n,e1, ?_⟩
   simp only[List.foldlM_cons,Sem.run_bind,Builtin.min2,Sem.run_pure,Result.andThen_ok]
   simpa using e2
  ·cases hm
omit bZ h in
theorem Be{k:IntKind}: ∀(rest:List T) (vs:List Value) (x:Int) (r:T),av β st.gens w M rest vs→bu true (.i k x) rest=some r→ ∃n,r= .i k n∧(vs.foldlM Builtin.max2 (.int k x)).run P w= .ok (.int k n) w
 | [],vs,x,r,hl,hm=>by
   simp only[av]at hl;subst hl
   simp[bu]at hm;subst hm
   exact⟨x,rfl,by simp⟩
 |t::ts,vs,x,r,hl,hm=>by
  simp only[av]at hl
  obtain⟨u,us,rfl,h1,h2⟩:=hl
  cases t <;> simp only[bu]at hm <;> try (cases hm;done)
  rename_i k' y
  split at hm
  ·rename_i hk;subst hk
   have:=h1.int;subst this
   obtain⟨n,e1,e2⟩:=Be ts us _ r h2 hm
   refine⟨n,e1, ?_⟩
   simp only[List.foldlM_cons,Sem.run_bind,Builtin.max2,Sem.run_pure,Result.andThen_ok]
   simpa using e2
  ·cases hm
theorem Nr{d nx:Nat}{isMax:Bool}{c:Call}{as:List aZ}(ho:o.op= .call c)(hb:c.callee= .builtin (if isMax then .max else .min))(ha:oQ c.args.toList=some as)
  (hq:(bC d st.rho (.mm isMax as)).run st.get nx=some (.val v ups)):dh P B st a w β M o v ups:=by
 have hl:=lZ bZ ha
 simp only[bC]at hq
 split at hq
 ·rename_i x rest e
  cases hm:bu isMax x rest with
  |none=>simp[hm,Ev.val,Q.run]at hq
  |some r=>
   simp[hm,Ev.val,Q.run]at hq;obtain⟨rfl,rfl⟩:=hq
   rw[e]at hl
   simp only[av]at hl
   obtain⟨u,us,e2,h1,h2⟩:=hl
   cases rest with
   |nil=>
    simp[bu]at hm;subst hm
    simp only[av]at h2;subst h2
    refine aT h (cv:=u) ?_ h1
    rw[cZ ho hb]
    cases isMax <;> simp[builtin,Builtin.min_,Builtin.max_,e2]
   |cons y ys=>
    obtain⟨k,xn,rfl⟩:=zl hm
    have:=h1.int;subst this
    cases isMax with
    |false=>
     obtain⟨n,e3,e4⟩:=Bd (P:=P) (y::ys) us xn r h2 hm
     subst e3
     refine aT h (cv:= .int k n) ?_ (by simp only[au])
     rw[cZ ho hb]
     simp[builtin,Builtin.min_,e2,e4]
    |true=>
     obtain⟨n,e3,e4⟩:=Be (P:=P) (y::ys) us xn r h2 hm
     subst e3
     refine aT h (cv:= .int k n) ?_ (by simp only[au])
     rw[cZ ho hb]
     simp[builtin,Builtin.max_,e2,e4]
 ·simp[Q.run]at hq
end
theorem lD{P:Program}{t:TypeId}{k:CK}(h:qp P t=some k):match k with| .int=> ∃ik,P.underlying t=some (.int ik)| .str=>P.underlying t=some .string| .bool=>P.underlying t=some .bool:=by
 unfold qp at h
 split at h <;> simp at h <;> subst h
 ·rename_i ik e;exact⟨ik,e⟩
 ·rename_i e;exact e
 ·rename_i e;exact e
theorem rm{P:Program}{β:aS}{G:Sp→Nat→Nat}{w:World}{M:aI}{t:TypeId}{k:CK}{x y:T}{cx cy:Value}{r:Bool}(d:Nat)(hk:qp P t=some k)(hx:au β G w M x cx)(hy:au β G w M y cy)(h:dJ k x y=some r):
  (Op.equalIn (d+1) t cx cy).run P w= .ok r w:=by
 have hu:=lD hk
 unfold dJ at h
 split at h
 ·simp at h;subst h
  rw[hx.bool,hy.bool]
  exact run_equalIn_bool' w d t _ _ hu
 ·split at h
  ·rename_i e;subst e
   simp at h;subst h
   obtain⟨ik,hu⟩:=hu
   rw[hx.int,hy.int]
   exact run_equalIn_int w d t _ ik _ _ hu
  ·cases h
 ·simp at h;subst h
  obtain⟨bx,e1,rfl⟩:=hx.str
  obtain⟨bY,e2,rfl⟩:=hy.str
  rw[e1,e2,run_equalIn_string w d t _ _ hu,cP,cP,eD]
 ·cases h
theorem nA{P:Program}{β:aS}{G:Sp→Nat→Nat}{w:World}{M:aI}(d:Nat){xa ya:Array Value}{xs ys:List T}(hx:av β G w M xs xa.toList)(hy:av β G w M ys ya.toList):
  ∀(fs:List Field) (i:Nat) (ks:List CK) (r:Bool),gQ P i fs=some ks→cJ ks (xs.drop i) (ys.drop i)=some r→(Op.eqFields (d+1) xa ya fs).run P w= .ok r w
 | [],i,ks,r,hk,he=>by
   simp[gQ]at hk;subst hk
   generalize xs.drop i=xd at he
   generalize ys.drop i=yd at he
   cases xd <;> cases yd <;> simp[cJ]at he
   subst he;simp[Op.eqFields]
 |f::fs,i,ks,r,hk,he=>by
  simp only[gQ]at hk
  split at hk
  ·rename_i hc
   simp at hc
   obtain⟨⟨c1,c2⟩,c3⟩:=hc
   split at hk
   ·rename_i k Ns h1 h2
    simp at hk;subst hk
    cases Fs:xs.drop i with
    |nil=>rw[Fs]at he;cases ys.drop i <;> simp[cJ]at he
    |cons x xr=>
     cases IB:ys.drop i with
     |nil=>rw[Fs,IB]at he;simp[cJ]at he
     |cons y yr=>
      rw[Fs,IB]at he
      simp only[cJ]at he
      have gx:xs[i]? =some x:=by have:=congrArg (·[0]?) Fs;simpa using this
      have gy:ys[i]? =some y:=by have:=congrArg (·[0]?) IB;simpa using this
      obtain⟨cx,ax,vx⟩:=hx.get gx
      obtain⟨cy,ay,vy⟩:=hy.get gy
      have agg:mr P f.type=some false:=by
       have:=lD h1
       unfold mr
       cases k
       ·obtain⟨ik,e⟩:=this;simp[e]
       ·simp[this]
       ·simp[this]
      have Eg:(Go.part f.type xa f.offset).run P w= .ok cx w:=by
       unfold Go.part;simp only[Sem.run_bind,lC agg,Result.andThen_ok]
       have:xa[i]? =some cx:=by simpa using ax
       simp[c1,this]
      have hny:(Go.part f.type ya f.offset).run P w= .ok cy w:=by
       unfold Go.part;simp only[Sem.run_bind,lC agg,Result.andThen_ok]
       have:ya[i]? =some cy:=by simpa using ay
       simp[c1,this]
      have hxd:xs.drop (i+1)=xr:=by rw[←List.drop_drop,Fs];rfl
      have hyd:ys.drop (i+1)=yr:=by rw[←List.drop_drop,IB];rfl
      simp only[Op.eqFields,if_pos (show f.name≠ "_" from c2),Sem.run_bind,Eg,hny,Result.andThen_ok]
      cases hc:dJ k x y with
      |none=>simp[hc]at he
      |some b=>
       rw[rm d h1 vx vy hc]
       cases b with
       |false=>simp[hc]at he;subst he;simp
       |true=>
        simp only[hc]at he
        simp only[Result.andThen_ok,Bool.not_true,Bool.false_eq_true,if_false]
        exact nA d hx hy fs (i+1) Ns r h2 (by rw[hxd,hyd];exact he)
   ·cases hk
  ·cases hk
theorem gS{P:Program}{t:TypeId}{k:EK}(h:ra P t=some k):match k with
  | .one c=>qp P t=some c
  | .flat ks=> ∃fs,P.underlying t=some (.struct fs)∧P.eqGuardType P.depth t=false∧P.stoodInHeld t=false∧gQ P 0 fs.toList=some ks
  | .sl=> ∃e,P.underlying t=some (.slice e)
  | .ptr=> ∃e,P.underlying t=some (.pointer e)
  | .map=> ∃a b,P.underlying t=some (.map a b):=by
 unfold ra at h
 split at h
 ·simp at h;subst h;rename_i e;simp[qp,e]
 ·simp at h;subst h;rename_i e;simp[qp,e]
 ·simp at h;subst h;rename_i e;simp[qp,e]
 ·simp at h;subst h;rename_i x e;exact⟨x,e⟩
 ·simp at h;subst h;rename_i x e;exact⟨x,e⟩
 ·simp at h;subst h;rename_i x y e;exact⟨x,y,e⟩
 ·rename_i fs e
  split at h
  ·rename_i hc
   simp only[Option.map_eq_some_iff]at h
   obtain⟨ks,h1,rfl⟩:=h
   simp at hc
   exact⟨fs,e,hc.1,hc.2,h1⟩
  ·cases h
 ·cases h
theorem qt{P:Program}(w:World)(d:Nat)(t e:TypeId)(p:Option Addr)(h:P.underlying t=some (.pointer e)):(Op.equalIn (d+1) t (.pointer p) (.pointer none)).run P w= .ok p.isNone w:=by
 cases p <;> simp[Op.equalIn,run_underlying h]
theorem jJ{P:Program}(w:World)(t e:TypeId)(p:Option Addr)(h:P.underlying t=some (.pointer e)):(Op.equal t (.pointer p) (.pointer none)).run P w= .ok p.isNone w:=qt w 9999 t e p h
theorem Bf{P:Program}{β:aS}{G:Sp→Nat→Nat}{w:World}{M:aI}{t:TypeId}{k:EK}{x y:T}{cx cy:Value}{r:Bool}(hk:ra P t=some k)(hx:au β G w M x cx)(hy:au β G w M y cy)(h:mO k x y=some r):
  (Op.equal t cx cy).run P w= .ok r w:=by
 have hu:=gS hk
 unfold mO at h
 split at h
 ·exact rm 9999 hu hx hy h
 ·rename_i ks xs ys
  obtain⟨fs,u1,u2,u3,u4⟩:=hu
  simp only[au]at hx hy
  obtain⟨xa,rfl,lx,_⟩:=hx
  obtain⟨ya,rfl,ly,_⟩:=hy
  have hf:P.fieldsOf t=fs:=by simp[Program.fieldsOf,u1]
  have:=run_equalIn_struct w 9999 t xa ya (by rw[hf];exact u1) u3
  rw[hf]at this
  exact this.trans (nA 9998 lx ly _ 0 ks r u4 (by simpa using h))
 ·simp at h;subst h
  obtain⟨e,hu⟩:=hu
  simp only[au]at hx hy;subst hx;subst hy
  exact run_equal_slice_nil w t e _ _ _ hu
 ·simp at h;subst h
  obtain⟨e,hu⟩:=hu
  simp only[au,PRel]at hx hy
  obtain⟨_,_,_,_,rfl,_⟩:=hx;subst hy
  exact run_equal_slice_nil w t e _ _ _ hu
 ·simp at h;subst h
  obtain⟨e,hu⟩:=hu
  simp only[au]at hx hy
  obtain⟨_,_,rfl,_⟩:=hx;subst hy
  exact run_equal_slice_nil w t e _ _ _ hu
 ·simp at h;subst h
  obtain⟨e,hu⟩:=hu
  simp only[au]at hx hy;subst hx;subst hy
  exact jJ w t e _ hu
 ·simp at h;subst h
  obtain⟨e,hu⟩:=hu
  simp only[au,PRel]at hx hy
  obtain⟨_,_,rfl,_⟩:=hx;subst hy
  exact jJ w t e _ hu
 ·simp at h;subst h
  obtain⟨e,hu⟩:=hu
  simp only[au]at hx hy
  obtain⟨_,rfl⟩:=hx;subst hy
  exact jJ w t e _ hu
 ·simp at h;subst h
  obtain⟨e,e',hu⟩:=hu
  simp only[au]at hx hy;subst hx;subst hy
  exact run_equal_map_nil w t e e' _ hu
 ·simp at h;subst h
  obtain⟨e,e',hu⟩:=hu
  simp only[au,PRel]at hx hy
  obtain⟨_,_,_,rfl,_⟩:=hx;subst hy
  exact run_equal_map_nil w t e e' _ hu
 ·simp at h;subst h
  obtain⟨e,e',hu⟩:=hu
  simp only[au]at hx hy
  obtain⟨_,rfl⟩:=hx;subst hy
  exact run_equal_map_nil w t e e' _ hu
 ·cases h
end Go.Ev
namespace Go.Ev
open Go
section
variable{P:Program}{B:dP}{st:St}{a:Act}{w:World}{β:aS}{M:aI}{o:Oper}{v:T}{ups:List Up}
variable(bZ:iw β st.gens w M st.rho a.eval)(h:bf B st w β M)
include bZ h in
theorem Bg{neg:Bool}{k:EK}{t t':TypeId}{x y:Operand}{x' y':aZ}(ho:o.op= .binOp (if neg then .neq else .eql) t x y t')(hx:dC x=some x')(hy:dC y=some y')(hk:ra P t=some k)(hn:k≠ .one .int∧k≠ .one .str){r:Bool}
  (hq:mO k (st.rho x') (st.rho y')=some r):dh P B st a w β M o (.b (r != neg)) []:=by
 have vx:=bZ x x' hx
 have vy:=bZ y y' hy
 have he:=Bf (P:=P) hk vx vy hq
 have hu:=gS hk
 refine aT h (cv:= .bool (r != neg)) ?_ (by simp only[au])
 generalize st.rho x'=tx at*
 generalize st.rho y'=ty at*
 have fin: ∀cx cy,a.eval x=cx→a.eval y=cy→(eqGuard (if neg then .neq else .eql) t x y cx cy).run P w= .ok () w→
   ((binOp .eql t cx cy)=(do pure (.bool (←Op.equal t cx cy))))→((binOp .neq t cx cy)=(do pure (.bool (!(←Op.equal t cx cy)))))→(execOp a.eval o).run P w= .ok (.value (.bool (r != neg))) w:=by
  intro cx cy e1 e2 e3 e4 e5
  rw[e1,e2]at he
  cases neg
  ·simp at e3
   simp[execOp,ho,e1,e2,e3,e4,he]
  ·simp at e3
   simp[execOp,ho,e1,e2,e3,e5,he]
 have g0: ∀cx cy,(∀z,cx≠ .agg z)→cx≠ .nilIface→(eqGuard (if neg then .neq else .eql) t x y cx cy).run P w= .ok () w:=by
  intro cx cy h1 h2
  cases neg <;> cases cx <;> simp[eqGuard]at*
 unfold mO at hq
 split at hq
 ·rename_i c
  unfold dJ at hq
  split at hq
  ·exact fin _ _ vx.bool vy.bool (g0 _ _ (by simp) (by simp)) rfl rfl
  ·exact absurd rfl hn.1
  ·exact absurd rfl hn.2
  ·cases hq
 ·obtain⟨fs,u1,u2,u3,u4⟩:=hu
  simp only[au]at vx vy
  obtain⟨xa,e1,_⟩:=vx
  obtain⟨ya,e2,_⟩:=vy
  exact fin _ _ e1 e2 (run_eqGuard_agg w _ t x y xa ya u2) rfl rfl
 ·simp only[au]at vx vy
  exact fin _ _ vx vy (g0 _ _ (by simp) (by simp)) rfl rfl
 ·simp only[au,PRel]at vx vy
  obtain⟨_,_,_,_,e1,_⟩:=vx
  exact fin _ _ e1 vy (g0 _ _ (by simp) (by simp)) rfl rfl
 ·simp only[au]at vx vy
  obtain⟨_,_,e1,_⟩:=vx
  exact fin _ _ e1 vy (g0 _ _ (by simp) (by simp)) rfl rfl
 ·simp only[au]at vx vy
  exact fin _ _ vx vy (g0 _ _ (by simp) (by simp)) rfl rfl
 ·simp only[au,PRel]at vx vy
  obtain⟨_,_,e1,_⟩:=vx
  exact fin _ _ e1 vy (g0 _ _ (by simp) (by simp)) rfl rfl
 ·simp only[au]at vx vy
  exact fin _ _ vx.2 vy (g0 _ _ (by simp) (by simp)) rfl rfl
 ·simp only[au]at vx vy
  exact fin _ _ vx vy (g0 _ _ (by simp) (by simp)) rfl rfl
 ·simp only[au,PRel]at vx vy
  obtain⟨_,_,_,e1,_⟩:=vx
  exact fin _ _ e1 vy (g0 _ _ (by simp) (by simp)) rfl rfl
 ·simp only[au]at vx vy
  exact fin _ _ vx.2 vy (g0 _ _ (by simp) (by simp)) rfl rfl
 ·cases hq
end
theorem zn{P:Program}{β:aS}{G:Sp→Nat→Nat}{w:World}{M:aI}{t:TypeId}{c:CK}{kd:TypeDesc}{k x:T}{kv xv:Value}{b:Bool}(hc:qp P t=some c)(hu:P.underlying t=some kd)(hk:au β G w M k kv)(hx:au β G w M x xv)(h:dJ c k x=some b):
  Instr.sameNow kd kv xv=some b:=by
 have zk:=lD hc
 unfold dJ at h
 split at h
 ·simp at h;subst h
  rw[hk.bool,hx.bool]
  simp only at zk
  rw[hu]at zk;simp at zk;subst zk
  rfl
 ·split at h
  ·rename_i e;subst e
   simp at h;subst h
   obtain⟨ik,zk⟩:=zk
   rw[hu]at zk;simp at zk;subst zk
   rw[hk.int,hx.int];simp[Instr.sameNow]
  ·cases h
 ·simp at h;subst h
  simp only at zk
  rw[hu]at zk;simp at zk;subst zk
  obtain⟨b1,e1,rfl⟩:=hk.str
  obtain⟨b2,e2,rfl⟩:=hx.str
  rw[e1,e2]
  simp[Instr.sameNow,beq_toListBytes,cP,eD]
 ·cases h
def Found(es:List MapEntry)(off:Nat)(r:Option Nat)(res:Option (Nat×Value)):Prop:=
 match r with
 |none=>res=none
 |some i=> ∃e,es[i]? =some e∧res=some (off+i,e.val)
theorem rn{P:Program}{β:aS}{G:Sp→Nat→Nat}{w:World}{M:aI}{t:TypeId}{c:CK}{kd:TypeDesc}{k:T}{kv:Value}(hc:qp P t=some c)(hu:P.underlying t=some kd)(hk:au β G w M k kv):
  ∀(es:List MapEntry) (ks:List T) (off:Nat) (r:Option Nat),PList w M ks (es.map (·.key))→dY (.one c) k ks=some r→ ∃res,Instr.findNow kd kv es off=some res∧Found es off r res
 | [],ks,off,r,hl,hf=>by
   cases ks with
   |nil=>simp[dY]at hf;subst hf;exact⟨none,rfl,rfl⟩
   |cons x xs=>simp[PList]at hl
 |e::es,ks,off,r,hl,hf=>by
  cases ks with
  |nil=>simp[PList]at hl
  |cons x xs=>
   simp only[List.map_cons,PList,List.cons.injEq]at hl
   obtain⟨u,us,⟨rfl,rfl⟩,h1,h2⟩:=hl
   simp only[dY,mO]at hf
   cases hb:dJ c k x with
   |none=>simp[hb]at hf
   |some b=>
    have hs:=zn hc hu hk (PRel.toV β G _ _ h1) hb
    cases b with
    |true=>
     simp[hb]at hf;subst hf
     exact⟨some (off,e.val),by simp[Instr.findNow,hs],e,rfl,rfl⟩
    |false=>
     simp only[hb,Option.map_eq_some_iff]at hf
     obtain⟨r',h3,rfl⟩:=hf
     obtain⟨res,e1,e2⟩:=rn hc hu hk es xs (off+1) r' h2 h3
     refine⟨res,by simp[Instr.findNow,hs,e1], ?_⟩
     cases r' with
     |none=>exact e2
     |some i=>
      obtain⟨e',a1,a2⟩:=e2
      exact⟨e',by simpa using a1,by rw[a2];simp;omega⟩
theorem mG{P:Program}{β:aS}{G:Sp→Nat→Nat}{w:World}{M:aI}{t:TypeId}{ek:EK}{k:T}{kv:Value}(hc:ra P t=some ek)(hk:au β G w M k kv):
  ∀(es:List MapEntry) (ks:List T) (off:Nat) (r:Option Nat),PList w M ks (es.map (·.key))→dY ek k ks=some r→ ∃res,(Instr.findAsking t kv es off).run P w= .ok res w∧Found es off r res
 | [],ks,off,r,hl,hf=>by
   cases ks with
   |nil=>simp[dY]at hf;subst hf;exact⟨none,by simp[Instr.findAsking],rfl⟩
   |cons x xs=>simp[PList]at hl
 |e::es,ks,off,r,hl,hf=>by
  cases ks with
  |nil=>simp[PList]at hl
  |cons x xs=>
   simp only[List.map_cons,PList,List.cons.injEq]at hl
   obtain⟨u,us,⟨rfl,rfl⟩,h1,h2⟩:=hl
   simp only[dY]at hf
   cases hb:mO ek k x with
   |none=>simp[hb]at hf
   |some b=>
    have hs:=Bf (P:=P) hc hk (PRel.toV β G _ _ h1) hb
    cases b with
    |true=>
     simp[hb]at hf;subst hf
     exact⟨some (off,e.val),by simp[Instr.findAsking,hs],e,rfl,rfl⟩
    |false=>
     simp only[hb,Option.map_eq_some_iff]at hf
     obtain⟨r',h3,rfl⟩:=hf
     obtain⟨res,e1,e2⟩:=mG hc hk es xs (off+1) r' h2 h3
     refine⟨res,by simp[Instr.findAsking,hs,e1], ?_⟩
     cases r' with
     |none=>exact e2
     |some i=>
      obtain⟨e',a1,a2⟩:=e2
      exact⟨e',by simpa using a1,by rw[a2];simp;omega⟩
theorem zo{P:Program}{t:TypeId}{ek:EK}(h:keyOf P t=some ek):ra P t=some ek∧((∃c,ek= .one c)∨ ∃ks,ek= .flat ks):=by
 unfold keyOf at h
 split at h
 ·rename_i c e;simp at h;subst h;exact⟨e,.inl ⟨c,rfl⟩⟩
 ·rename_i c e;simp at h;subst h;exact⟨e,.inr ⟨c,rfl⟩⟩
 ·cases h
theorem kq{P:Program}{β:aS}{G:Sp→Nat→Nat}{w:World}{M:aI}{t:TypeId}{ek:EK}{k:T}{kv:Value}(hc:keyOf P t=some ek)(hk:au β G w M k kv)(es:List MapEntry)(ks:List T)(r:Option Nat)(hl:PList w M ks (es.map (·.key)))
  (hf:dY ek k ks=some r): ∃res,(Instr.findKey t kv es).run P w= .ok res w∧Found es 0 r res:=by
 obtain⟨he,jx⟩:=zo hc
 unfold Instr.findKey
 rcases jx with⟨c,rfl⟩|⟨ck,rfl⟩
 ·have IC:=gS he
  simp only at IC
  have: ∃kd,P.underlying t=some kd:=by
   have:=lD IC
   cases c
   ·obtain⟨ik,e⟩:=this;exact⟨_,e⟩
   ·exact⟨_,this⟩
   ·exact⟨_,this⟩
  obtain⟨kd,hu⟩:=this
  obtain⟨res,e1,e2⟩:=rn IC hu hk es ks 0 r hl hf
  exact⟨res,by simp[run_underlying hu,e1],e2⟩
 ·obtain⟨fs,u1,_⟩:=gS he
  obtain⟨res,e1,e2⟩:=mG (P:=P) he hk es ks 0 r hl hf
  cases es with
  |nil=>
   refine⟨res, ?_,e2⟩
   have:res=none:=by
    cases ks with
    |nil=>simp[dY]at hf;subst hf;exact e2
    |cons x xs=>simp[PList]at hl
   subst this
   simp[run_underlying u1,Instr.findNow]
  |cons e es=>
   refine⟨res, ?_,e2⟩
   have:Instr.sameNow (.struct fs) kv e.key=none:=by unfold Instr.sameNow;split <;> simp_all
   simp[run_underlying u1,Instr.findNow,this,e1]
theorem nB{P:Program}{w:World}{t:TypeId}{c:CK}(hc:qp P t=some c)(n:Nat)(em:Bool)(v:Value):(Instr.checkKey em (n+1) t v).run P w= .ok () w:=by
 have:=lD hc
 cases c
 ·obtain⟨ik,e⟩:=this;simp[Instr.checkKey,run_underlying e]
 ·simp[Instr.checkKey,run_underlying this]
 ·simp[Instr.checkKey,run_underlying this]
theorem kV{P:Program}{w:World}(n:Nat)(em:Bool)(cs:Array Value): ∀(fs:List Field) (i:Nat) (ks:List CK),gQ P i fs=some ks→i+ks.length≤cs.size→
  (forIn fs PUnit.unit (fun f (_:PUnit)=>
    if f.name≠ "_" then(do
     let p ←Go.part f.type cs f.offset
     Instr.checkKey em (n+1) f.type p
     pure (ForInStep.yield PUnit.unit))else pure (ForInStep.yield PUnit.unit):Field→PUnit→Sem (ForInStep PUnit))).run P w= .ok PUnit.unit w
 | [],i,ks,hk,hs=>by simp
 |f::fs,i,ks,hk,hs=>by
  simp only[gQ]at hk
  split at hk
  ·rename_i hc
   simp at hc
   obtain⟨⟨c1,c2⟩,c3⟩:=hc
   split at hk
   ·rename_i k Ns h1 h2
    simp at hk;subst hk
    have agg:mr P f.type=some false:=by
     have:=lD h1
     unfold mr
     cases k
     ·obtain⟨ik,e⟩:=this;simp[e]
     ·simp[this]
     ·simp[this]
    have hi:i<cs.size:=by simp at hs;omega
    have hn:(Go.part f.type cs f.offset).run P w= .ok cs[i] w:=by
     unfold Go.part;simp only[Sem.run_bind,lC agg,Result.andThen_ok]
     have:cs[i]? =some cs[i]:=Array.getElem?_eq_getElem hi
     simp[c1,this]
    have ih:=kV (P:=P) (w:=w) n em cs fs (i+1) Ns h2 (by simp at hs;omega)
    simp only[List.forIn_cons,Sem.run_bind,if_pos (show f.name≠ "_" from c2),hn,Result.andThen_ok,nB h1,Sem.run_pure]
    exact ih
   ·cases hk
  ·cases hk
theorem pM{P:Program}{β:aS}{G:Sp→Nat→Nat}{w:World}{M:aI}{t:TypeId}{ek:EK}{k:T}{kv:Value}(hc:keyOf P t=some ek)(hk:au β G w M k kv)(zp:isKey ek k=true)(n:Nat)(em:Bool):
  (Instr.checkKey em (n+2) t kv).run P w= .ok () w:=by
 obtain⟨he,jx⟩:=zo hc
 rcases jx with⟨c,rfl⟩|⟨ck,rfl⟩
 ·exact nB (gS he) (n+1) em kv
 ·obtain⟨fs,u1,_,_,u4⟩:=gS he
  unfold isKey at zp
  split at zp
  ·simp_all
  ·rename_i ks xs e
   simp at e;subst e
   simp only[au]at hk
   obtain⟨arr,rfl,hl,_⟩:=hk
   have hlen:ck.length≤arr.size:=by
    have h1:=av.length _ _ hl
    have: ∀(ks:List CK) (xs:List T),iD ks xs=true→ks.length=xs.length:=by
     intro ks
     induction ks with
     |nil=>intro xs h;cases xs <;> simp[iD]at h ⊢
     |cons k ks ih=>intro xs h;cases xs <;> simp[iD]at h ⊢; exact ih _ h.2
    rw[this _ _ zp,h1];simp
   have:=kV (P:=P) (w:=w) n em arr fs.toList 0 ck u4 (by omega)
   rw[Instr.checkKey]
   simp only[Sem.run_bind,run_underlying u1,Result.andThen_ok]
   rw[←Array.forIn_toList,this]
   rfl
  ·cases zp
end Go.Ev
