/- A tree evaluator over the model, proved against it (part B): where it answers, the call returns that answer. Conditions: none beyond its theorems' own. -/
import Derived.Test.YtfenhjpkomldcaaGreatEvA
import Derived.Laws.Cells
import Derived.Laws.CopyRow
import Derived.Laws.AppendOwn
import Derived.Laws.Entries
import Derived.Laws.StructEq
import Derived.Laws.Cover3
set_option linter.unusedSimpArgs false
set_option linter.unusedVariables false
namespace Go.Ev
open Go
theorem constCell_rel{w:World}{M:MSet}{v:Value}{t:T}(h:constCell v=some t):PRel w M t v∧single t=true:=by
 unfold constCell at h
 split at h
 case h_8 f a c=>
  split at h
  ·rename_i h1 h2
   simp at h;subst h
   simp only[PRel,single]
   exact⟨⟨a,c,rfl,by rw[h1];simp[PList],by rw[h2];simp[PList]⟩,trivial⟩
  ·simp at h
 all_goals (simp at h)
 all_goals (subst h;simp[PRel,PList,single])
theorem constCells_rel{w:World}{M:MSet}: ∀{vs:List Value} {ts:List T},constCells vs=some ts→PList w M ts vs∧ts.all single=true
 | [],ts,h=>by simp[constCells]at h;subst h;simp[PList]
 |v::vs,ts,h=>by
  simp only[constCells]at h
  split at h
  ·rename_i t ts' h1 h2
   simp at h;subst h
   have a:=constCell_rel (w:=w) (M:=M) h1
   have b:=constCells_rel (w:=w) (M:=M) h2
   simp only[PList,List.all_cons,Bool.and_eq_true]
   exact⟨⟨v,vs,rfl,a.1,b.1⟩,a.2,b.2⟩
  ·simp at h
theorem constT_rel{w:World}{M:MSet}{v:Value}{t:T}(h:constT v=some t):PRel w M t v:=by
 unfold constT at h
 split at h
 ·rename_i cs
  simp only[Option.map_eq_some_iff]at h
  obtain⟨ts,h1,rfl⟩:=h
  have:=constCells_rel (w:=w) (M:=M) h1
  simp only[PRel];exact⟨cs,rfl,this.1,this.2⟩
 ·rename_i cs
  simp only[Option.map_eq_some_iff]at h
  obtain⟨ts,h1,rfl⟩:=h
  have:=constCells_rel (w:=w) (M:=M) h1
  simp only[PRel];exact⟨cs,rfl,this.1⟩
 ·exact(constCell_rel h).1
def RhoOk(β:Beta)(G:Sp→Nat→Nat)(w:World)(M:MSet)(ρ:Opd→T)(e:Operand→Value):Prop:= ∀x y,opd x=some y→VRel β G w M (ρ y) (e x)
theorem rho_ok{st:St}{a:Act}{w:World}{β:Beta}{M:MSet}{n:Nat}(h:FRel st a w β M n):RhoOk β st.gens w M st.rho a.eval:=by
 intro x y hxy
 cases x with
 |tmp t=>simp[opd]at hxy;subst hxy;exact h.slot t
 |const v=>
  simp only[opd,Option.map_eq_some_iff]at hxy
  obtain⟨t,h1,rfl⟩:=hxy
  exact PRel.toV _ _ _ _ (constT_rel h1)
 |global g=>simp[opd]at hxy
 |func f=>simp[opd]at hxy;subst hxy;simp[St.rho,Act.eval,VRel,VList]
def OpOk(P:Program)(B:Base)(st:St)(a:Act)(w:World)(β:Beta)(M:MSet)(o:Oper)(v:T)(ups:List Up):Prop:=
 ∃nx cv w' β' M',(execOp a.eval o).run P w= .ok nx w'∧(nx= .value cv∨(nx= .skip∧cv=undef))∧HRel B (st.ups ups) w' β' M'∧Tr st w β M (st.ups ups) w' β' M'∧w.heap.size≤w'.heap.size∧VRel β' (st.ups ups).gens w' M' v cv
section
variable{P:Program}{B:Base}{st:St}{a:Act}{w:World}{β:Beta}{M:MSet}{o:Oper}{v:T}{ups:List Up}
theorem same_ok(h:HRel B st w β M){cv:Value}(hr:(execOp a.eval o).run P w= .ok (.value cv) w)(hv:VRel β st.gens w M v cv):OpOk P B st a w β M o v []:=
 ⟨_,cv,w,β,M,hr,.inl rfl,h,Tr.refl _ _ _ _,Nat.le_refl _,hv⟩
variable(hρ:RhoOk β st.gens w M st.rho a.eval)(h:HRel B st w β M)
include hρ h
theorem mv_ok{x:Operand}{y:Opd}(ho:o.op= .move x∨o.op= .assign x)(hx:opd x=some y):OpOk P B st a w β M o (st.rho y) []:=
 same_ok h (cv:=a.eval x) (by rcases ho with ho|ho <;> simp[execOp,ho]) (hρ x y hx)
theorem pick_ok{c x y:Operand}{c' x' y':Opd}(ho:o.op= .pick c x y)(h1:opd c=some c')(h2:opd x=some x')(h3:opd y=some y'){bb:Bool}(hb:st.rho c'= .b bb):
  OpOk P B st a w β M o (st.rho (if bb then x' else y')) []:=by
 have hc:=hρ c c' h1
 rw[hb]at hc;simp only[VRel]at hc
 cases bb
 ·exact same_ok h (cv:=a.eval y) (by simp[execOp,ho,hc,asBool]) (hρ y y' h3)
 ·exact same_ok h (cv:=a.eval x) (by simp[execOp,ho,hc,asBool]) (hρ x x' h2)
theorem nck_ok{d nx:Nat}{x:Operand}{y:Opd}(ho:o.op= .nilCheck x)(hx:opd x=some y){v:T}(hq:(opQ d st.rho (.nck y)).run st.get nx=some (.val v ups)):OpOk P B st a w β M o v ups:=by
 have hv:=hρ x y hx
 simp only[opQ]at hq
 split at hq <;> simp[Q.run]at hq <;> obtain⟨rfl,rfl⟩:=hq <;> rename_i e
 ·rw[e]at hv
  refine same_ok h (cv:=a.eval x) ?_ hv
  simp only[VRel,PRel]at hv
  obtain⟨blk,off,h1,_⟩:=hv
  simp[execOp,ho,h1]
 ·rw[e]at hv
  refine same_ok h (cv:=a.eval x) ?_ hv
  simp only[VRel]at hv
  simp[execOp,ho,hv.2]
 ·rw[e]at hv
  refine same_ok h (cv:=a.eval x) ?_ hv
  simp only[VRel]at hv
  obtain⟨fa,fc,h1,_⟩:=hv
  simp[execOp,ho,h1]
end
end Go.Ev
namespace Go.Ev
open Go
theorem wr_eq(k:IntKind)(n:Int):wr k n=k.wrap n:=by
 unfold wr
 split
 ·rename_i h
  cases k <;> simp only[lo,hi]at h <;> simp[IntKind.wrap,IntKind.bits,IntKind.signed] <;> omega
 ·rfl
theorem bytesN_toList(x:ByteArray):bytesN x=x.toList.map UInt8.toNat:=by rw[ByteArray.toList_eq];rfl
theorem toNat_inj_list: ∀(a b:List UInt8),(a.map UInt8.toNat==b.map UInt8.toNat)=(a==b)
 | [],[]=>rfl
 | [],_::_=>rfl
 |_::_,[]=>rfl
 |x::xs,y::ys=>by
  simp only[List.map_cons,List.cons_beq_cons,toNat_inj_list xs ys]
  congr 1
  rw[Bool.eq_iff_iff];simp[UInt8.toNat_inj]
theorem less_map: ∀(a b:List UInt8),lessN (a.map UInt8.toNat) (b.map UInt8.toNat)=Op.bytesLess a b
 | [],[]=>rfl
 | [],_::_=>rfl
 |_::_,[]=>rfl
 |x::xs,y::ys=>by
  simp only[List.map_cons,lessN,Op.bytesLess,less_map xs ys]
  have h1:decide (x.toNat<y.toNat)=decide (x<y):=by rw[Bool.eq_iff_iff];simp[UInt8.lt_iff_toNat_lt]
  have h2:(x.toNat==y.toNat)=(x==y):=by rw[Bool.eq_iff_iff];simp[UInt8.toNat_inj]
  rw[h1,h2]
theorem bytesN_length(x:ByteArray):(bytesN x).length=x.size:=by
 unfold bytesN;rw[List.length_map,Array.length_toList];rfl
theorem bytesN_append(x y:ByteArray):bytesN (x++y)=bytesN x++bytesN y:=by simp[bytesN,ByteArray.data_append]
section
variable{P:Program}{B:Base}{st:St}{a:Act}{w:World}{β:Beta}{M:MSet}{o:Oper}{v:T}{ups:List Up}
theorem VRel.int{k:IntKind}{n:Int}{cv:Value}{G:Sp→Nat→Nat}(h:VRel β G w M (.i k n) cv):cv= .int k n:=by simpa only[VRel]using h
theorem VRel.str{l:List Nat}{cv:Value}{G:Sp→Nat→Nat}(h:VRel β G w M (.s l) cv): ∃bs,cv= .string bs∧bytesN bs=l:=by simpa only[VRel]using h
theorem VRel.bool{x:Bool}{cv:Value}{G:Sp→Nat→Nat}(h:VRel β G w M (.b x) cv):cv= .bool x:=by simpa only[VRel]using h
theorem binI_ok{op:BinOp}{k:IntKind}{x y:Int}{t:TypeId}{r:T}(h:binI op k x y=some r)(hs:op≠ .shl∧op≠ .shr): ∃cv,(binOp op t (.int k x) (.int k y)).run P w= .ok cv w∧ ∀G,VRel β G w M r cv:=by
 cases op <;> simp only[binI,Option.some.injEq]at h <;> try (subst h)
 all_goals first
  |exact absurd rfl hs.1
  |exact absurd rfl hs.2
  |skip
 case quo=>
  split at h
  ·cases h
  ·rename_i hy
   simp at h;subst h
   exact⟨_,by simp[binOp,Op.intDiv,hy];rfl,fun G=>by simp[VRel,wr_eq]⟩
 case rem=>
  split at h
  ·cases h
  ·rename_i hy
   simp at h;subst h
   exact⟨_,by simp[binOp,Op.intDiv,hy];rfl,fun G=>by simp[VRel]⟩
 all_goals first
  |exact⟨_,by simp[binOp,Op.intArith,Op.intBits,Op.intCmp];rfl,fun G=>by simp[VRel,wr_eq]⟩
  |cases h
theorem shiftI_ok{op:BinOp}{k k':IntKind}{x y:Int}{t:TypeId}{r:T}(h:shiftI op k x y=some r): ∃cv,(binOp op t (.int k x) (.int k' y)).run P w= .ok cv w∧ ∀G,VRel β G w M r cv:=by
 unfold shiftI at h
 split at h
 ·cases h
 ·rename_i hy
  cases op <;> simp at h <;> subst h
  ·exact⟨_,by simp[binOp,Op.shift,hy];rfl,fun G=>by simp[VRel]⟩
  ·exact⟨_,by simp[binOp,Op.shift,hy];rfl,fun G=>by simp[VRel]⟩
theorem binS_ok{op:BinOp}{x y:ByteArray}{t:TypeId}{r:T}(h:binS op (bytesN x) (bytesN y)=some r): ∃cv,(binOp op t (.string x) (.string y)).run P w= .ok cv w∧ ∀G,VRel β G w M r cv:=by
 have e1:(bytesN x==bytesN y)=(x.toList==y.toList):=by rw[bytesN_toList,bytesN_toList,toNat_inj_list]
 have e2:lessN (bytesN x) (bytesN y)=Op.bytesLess x.toList y.toList:=by rw[bytesN_toList,bytesN_toList,less_map]
 have e3:(bytesN x != bytesN y)= !(x.toList==y.toList):=by rw[bne,e1]
 cases op <;> simp only[binS]at h <;> try (cases h;done)
 case add=>
  split at h
  ·rename_i hl
   simp at h;subst h
   rw[bytesN_length,bytesN_length]at hl
   have: ¬(((x.size+y.size:Nat):Int)>IntKind.i64.max):=by simp[IntKind.max,IntKind.signed,IntKind.bits];omega
   exact⟨.string (x++y),by simp only[binOp,Op.stringOp,this,if_false];rfl,fun G=>by simp only[VRel];exact⟨_,rfl,bytesN_append x y⟩⟩
  ·cases h
 all_goals
  simp only[Option.some.injEq]at h
  subst h
  refine⟨_,by simp only[binOp,Op.stringOp];rfl,fun G=> ?_⟩
  simp only[VRel,e1,e2,e3]
variable(hρ:RhoOk β st.gens w M st.rho a.eval)(h:HRel B st w β M)
include hρ h
theorem bin_ok{op:BinOp}{t t':TypeId}{x y:Operand}{x' y':Opd}(ho:o.op= .binOp op t x y t')(hx:opd x=some x')(hy:opd y=some y')(hq:Ev.bin op (st.rho x') (st.rho y')=some v):OpOk P B st a w β M o v []:=by
 have vx:=hρ x x' hx
 have vy:=hρ y y' hy
 generalize st.rho x'=tx at*
 generalize st.rho y'=ty at*
 have guardI: ∀k k' m n,(eqGuard op t x y (.int k m) (.int k' n)).run P w= .ok () w:=by intro k k' m n;cases op <;> simp[eqGuard]
 have guardS: ∀m n,(eqGuard op t x y (.string m) (.string n)).run P w= .ok () w:=by intro m n;cases op <;> simp[eqGuard]
 unfold Ev.bin at hq
 split at hq
 ·rename_i k1 a1 k2 b1
  have e1:=vx.int;have e2:=vy.int
  obtain⟨cv,r1,r2⟩:=shiftI_ok (P:=P) (w:=w) (β:=β) (M:=M) (t:=t) (k':=k2) hq
  exact same_ok h (cv:=cv) (by simp[execOp,ho,e1,e2,guardI,r1]) (r2 _)
 ·rename_i k1 a1 k2 b1
  have e1:=vx.int;have e2:=vy.int
  obtain⟨cv,r1,r2⟩:=shiftI_ok (P:=P) (w:=w) (β:=β) (M:=M) (t:=t) (k':=k2) hq
  exact same_ok h (cv:=cv) (by simp[execOp,ho,e1,e2,guardI,r1]) (r2 _)
 ·rename_i hs1 hs2
  split at hq
  ·rename_i hk
   subst hk
   have e1:=vx.int;have e2:=vy.int
   obtain⟨cv,r1,r2⟩:=binI_ok (P:=P) (w:=w) (β:=β) (M:=M) (t:=t) hq ⟨fun e=>hs1 e,fun e=>hs2 e⟩
   exact same_ok h (cv:=cv) (by simp[execOp,ho,e1,e2,guardI,r1]) (r2 _)
  ·cases hq
 ·obtain⟨bx,e1,rfl⟩:=vx.str
  obtain⟨bY,e2,rfl⟩:=vy.str
  obtain⟨cv,r1,r2⟩:=binS_ok (P:=P) (w:=w) (β:=β) (M:=M) (t:=t) hq
  exact same_ok h (cv:=cv) (by simp[execOp,ho,e1,e2,guardS,r1]) (r2 _)
 ·cases hq
theorem un_ok{op:UnOp}{t:TypeId}{x:Operand}{x':Opd}(ho:o.op= .unOp op t x)(hx:opd x=some x')(hq:Ev.un op (st.rho x')=some v):OpOk P B st a w β M o v []:=by
 have vx:=hρ x x' hx
 generalize st.rho x'=tx at*
 unfold Ev.un at hq
 split at hq
 ·simp at hq;subst hq
  exact same_ok h (cv:=_) (by simp[execOp,ho,vx.int,Op.unary,Op.intArith];rfl) (by simp[VRel,wr_eq])
 ·simp at hq;subst hq
  exact same_ok h (cv:=_) (by simp[execOp,ho,vx.bool,Op.unary];rfl) (by simp only[VRel])
 ·rename_i k n
  simp only[binI,Option.some.injEq]at hq;subst hq
  exact same_ok h (cv:= .int k (k.wrap (BitVec.ofInt k.bits (if k.signed then-1 else k.max) ^^^ BitVec.ofInt k.bits n).toNat)) (by simp only[execOp,ho,vx.int,Op.unary,Op.intBits];rfl) (by simp only[VRel])
 ·cases hq
theorem cvi_ok{s t:TypeId}{k:IntKind}{x:Operand}{x':Opd}(ho:o.op= .convert s t x)(hx:opd x=some x')(hs: ∃k',P.underlying s=some (.int k'))(ht:P.underlying t=some (.int k)){k':IntKind}{n:Int}(hv:st.rho x'= .i k' n):
  OpOk P B st a w β M o (.i k (wr k n)) []:=by
 have vx:=hρ x x' hx
 rw[hv]at vx
 obtain⟨ks,hs⟩:=hs
 exact same_ok h (cv:= .int k (k.wrap n)) (by simp[execOp,ho,vx.int,convert,run_underlying hs,run_underlying ht,Conv.intToInt]) (by simp only[VRel,wr_eq])
omit h in
theorem opds_ok: ∀{xs:List Operand} {ys:List Opd},opds xs=some ys→VList β st.gens w M (ys.map st.rho) (xs.map a.eval)
 | [],ys,h=>by simp[opds]at h;subst h;simp[VList]
 |x::xs,ys,h=>by
  simp only[opds]at h
  split at h
  ·rename_i y ys' h1 h2
   simp at h;subst h
   simp only[List.map_cons,VList]
   exact⟨_,_,rfl,hρ x y h1,opds_ok h2⟩
  ·cases h
theorem mkfn_ok{f:FuncId}{first cap:Array Operand}{fs cs:List Opd}(ho:o.op= .makeFunc (.func f) first cap)(h1:opds first.toList=some fs)(h2:opds cap.toList=some cs):
  OpOk P B st a w β M o (.fn f (fs.map st.rho) (cs.map st.rho)) []:=
 same_ok h (cv:= .func (.func f) (first.map a.eval) (cap.map a.eval)) (by simp[execOp,ho,Instr.makeFunc]) (by
  simp only[VRel]
  exact⟨_,_,rfl,by simpa using opds_ok hρ h1,by simpa using opds_ok hρ h2⟩)
theorem ext_ok{x:Operand}{x':Opd}{j:Nat}(ho:o.op= .extract x j)(hx:opd x=some x'){vs:List T}(hv:st.rho x'= .tup vs)(hj:vs[j]? =some v):OpOk P B st a w β M o v []:=by
 have vx:=hρ x x' hx
 rw[hv]at vx
 simp only[VRel]at vx
 obtain⟨arr,e,hl⟩:=vx
 obtain⟨cv,c1,c2⟩:=hl.get hj
 have c1':arr[j]? =some cv:=by simpa using c1
 exact same_ok h (cv:=cv) (by simp[execOp,ho,e,Instr.extract,c1']) c2
end
end Go.Ev
namespace Go.Ev
open Go
theorem sizeT_run{P:Program}{t:TypeId}{n:Nat}(h:sizeT P t=some n)(w:World):(sizeOf t).run P w= .ok n w:=by
 unfold sizeT at h
 cases hi:P.info? t with
 |none=>simp[hi]at h
 |some i=>simp[hi]at h;simp[sizeOf,typeInfo,hi,h]
theorem aggT_run{P:Program}{t:TypeId}{ag:Bool}(h:aggT P t=some ag)(w:World):(isAgg t).run P w= .ok ag w:=by
 unfold aggT at h
 cases hu:P.underlying t with
 |none=>simp[hu]at h
 |some d=>
  simp only[hu,Option.map_some,Option.some.injEq]at h
  unfold isAgg
  simp only[Sem.run_bind,run_underlying hu,Result.andThen_ok]
  cases d <;> simp at h <;> subst h <;> rfl
theorem part_run{P:Program}{β:Beta}{G:Sp→Nat→Nat}{w:World}{M:MSet}{t:TypeId}{off n:Nat}{ag:Bool}{cs:List T}{arr:Array Value}{v:T}(hn:sizeT P t=some n)(ha:aggT P t=some ag)
  (hl:VList β G w M cs arr.toList) (hs:cs.all single=true) (h:Ev.part cs off n ag=some v): ∃cv,(Go.part t arr off).run P w= .ok cv w∧VRel β G w M v cv:=by
 unfold Ev.part at h
 unfold Go.part
 simp only[Sem.run_bind,aggT_run ha,Result.andThen_ok]
 cases ag with
 |true=>
  simp only[if_true]at h ⊢
  split at h
  ·rename_i hle
   simp at h;subst h
   refine⟨.agg (arr.extract off (off+n)),by simp[sizeT_run hn], ?_⟩
   simp only[VRel]
   refine⟨_,rfl, ?_,all_drop_take hs _ _⟩
   have:=VList.take n (VList.drop off hl)
   have e:(arr.extract off (off+n)).toList=(arr.toList.drop off).take n:=by
    rw[Array.toList_extract,List.extract_eq_take_drop];congr 1;omega
   rw[e];exact this
  ·cases h
 |false=>
  simp only[Bool.false_eq_true,if_false]at h ⊢
  obtain⟨cv,c1,c2⟩:=hl.get h
  have c1':arr[off]? =some cv:=by simpa using c1
  exact⟨cv,by simp[c1'],c2⟩
theorem add_none(b o n:Nat):(⟨b,o,none⟩:Addr).add n=⟨b,o+n,none⟩:=by unfold Addr.add;split <;> simp_all
theorem PCells.drop{w:World}{M:MSet}{blk:Nat}: ∀{off:Nat} {ts:List T} (n:Nat),PCells w M blk off ts→n≤ts.length→PCells w M blk (off+n) (ts.drop n)
 |off,ts,0,h,_=>by simpa using h
 |off,[],n+1,h,hl=>by simp at hl
 |off,c::cs,n+1,h,hl=>by
  simp only[PCells]at h
  have:=PCells.drop n h.2 (by simpa using hl)
  rw[show off+(n+1)=off+1+n by omega]
  simpa using this
theorem PCells.take{w:World}{M:MSet}{blk:Nat}: ∀{off:Nat} {ts:List T} (n:Nat),PCells w M blk off ts→PCells w M blk off (ts.take n)
 |off,ts,0,h=>by simp[PCells]
 |off,[],n+1,h=>by simp[PCells]
 |off,c::cs,n+1,h=>by
  simp only[PCells]at h
  simp only[List.take_succ_cons,PCells]
  exact⟨h.1,PCells.take n h.2⟩
theorem PCells.load{P:Program}{w:World}{M:MSet}{blk:Nat}: ∀{off:Nat} {ts:List T},PCells w M blk off ts→ ∃vs:List Value,vs.length=ts.length∧(∀j v,vs[j]? =some v→w.cell? ⟨blk,off+j,none⟩=some v)∧PList w M ts vs∧ts.all single=true
 |off,[],h=>⟨[],rfl,by simp,by simp[PList],rfl⟩
 |off,c::cs,h=>by
  simp only[PCells]at h
  obtain⟨⟨v,h1,_,h3,h4⟩,h2⟩:=h
  obtain⟨vs,e1,e2,e3,e4⟩:=PCells.load (P:=P) h2
  refine⟨v::vs,by simp[e1],fun j u hu=> ?_, ?_,by simp[h4,e4]⟩
  ·cases j with
   |zero=>simp at hu;subst hu;exact h1
   |succ j=>rw[show off+(j+1)=off+1+j by omega];exact e2 j u (by simpa using hu)
  ·simp only[PList];exact⟨v,vs,rfl,h3,e3⟩
theorem load_run{P:Program}{β:Beta}{G:Sp→Nat→Nat}{w:World}{M:MSet}{t:TypeId}{n:Nat}{ag:Bool}{blk off o:Nat}{cs:List T}{vs:List Value}{v:T}(hn:sizeT P t=some n)(ha:aggT P t=some ag)
  (hc: ∀j u,vs[j]? =some u→w.cell? ⟨blk,off+j,none⟩=some u) (hl:VList β G w M cs vs) (hs:cs.all single=true) (h:Ev.part cs o n ag=some v):
  ∃cv,(loadVar t ⟨blk,off+o,none⟩).run P w= .ok cv w∧VRel β G w M v cv:=by
 unfold Ev.part at h
 unfold loadVar
 simp only[Sem.run_bind,aggT_run ha,Result.andThen_ok]
 cases ag with
 |true=>
  simp only[if_true]at h ⊢
  split at h
  ·rename_i hle
   simp at h;subst h
   have hlen:=VList.length _ _ hl
   have hvl:((vs.drop o).take n).length=n:=by simp;omega
   have:=run_loadCells_list (P:=P) w ⟨blk,off+o,none⟩ ((vs.drop o).take n) (fun j u hu=>by
    rw[add_none]
    rw[List.getElem?_take]at hu
    split at hu
    ·rw[List.getElem?_drop]at hu
     rw[Nat.add_assoc];exact hc _ _ hu
    ·cases hu)
   rw[hvl]at this
   refine⟨.agg ((vs.drop o).take n).toArray,by simp[sizeT_run hn,this], ?_⟩
   simp only[VRel]
   exact⟨_,rfl,by simpa using VList.take n (VList.drop o hl),all_drop_take hs _ _⟩
  ·cases h
 |false=>
  simp only[Bool.false_eq_true,if_false]at h ⊢
  obtain⟨cv,c1,c2⟩:=hl.get h
  exact⟨cv,by simp[Go.load,Sem.run,hc _ _ c1],c2⟩
section
variable{P:Program}{B:Base}{st:St}{a:Act}{w:World}{β:Beta}{M:MSet}{o:Oper}{v:T}{ups:List Up}
variable(hρ:RhoOk β st.gens w M st.rho a.eval)(h:HRel B st w β M)
include h
theorem ldAt_run{t:TypeId}{n nx:Nat}{ag:Bool}{x:T}{cx:Value}(hn:sizeT P t=some n)(ha:aggT P t=some ag)(vx:VRel β st.gens w M x cx)(hq:(ldAt x n ag).run st.get nx=some v):
  ∃ad cv,cx= .pointer (some ad)∧(loadVar t ad).run P w= .ok cv w∧VRel β st.gens w M v cv:=by
 unfold ldAt at hq
 split at hq
 ·rename_i cs
  simp only[VRel,PRel]at vx
  obtain⟨blk,off,rfl,hc⟩:=vx
  obtain⟨vs,_,e2,e3,e4⟩:=PCells.load (P:=P) hc
  cases hp:Ev.part cs 0 n ag with
  |none=>simp[hp,Q.of,Q.run]at hq
  |some v'=>
   simp[hp,Q.of,Q.run]at hq;subst hq
   obtain⟨cv,r1,r2⟩:=load_run (P:=P) (β:=β) (G:=st.gens) (M:=M) hn ha e2 (PList.toV _ _ _ _ e3) e4 hp
   exact⟨_,cv,rfl,by simpa using r1,r2⟩
 ·rename_i sp k g off
  simp only[Q.run]at hq
  split at hq
  ·rename_i hg
   have ho:=h.obj sp k
   generalize he:st.get sp k=e at*
   obtain⟨ge,ob⟩:=e
   dsimp only at hg;subst hg
   cases ob with
   |none=>simp[Q.run]at hq
   |map _ _ _=>simp[Q.run]at hq
   |cells cs wm bx=>
    dsimp only at hq
    cases hp:Ev.part cs off n ag with
    |none=>simp[hp,Q.of,Q.run]at hq
    |some v'=>
     simp[hp,Q.of,Q.run]at hq;subst hq
     unfold ORel at ho
     obtain⟨c,el,fz,h1,h2,h3,h4,h5,h6,h7⟩:=ho
     dsimp only at h1 h2 h3 h5
     have h5':VList β st.gens w M cs ((c.toList.drop (β sp k ge).off).take cs.length):=by
      exact h5.toV
     simp only[VRel]at vx
     obtain⟨_,rfl⟩:=vx
     have hcell: ∀j u,((c.toList.drop (β sp k ge).off).take cs.length)[j]? =some u→w.cell? ⟨(β sp k ge).blk,(β sp k ge).off+j,none⟩=some u:=by
      intro j u hu
      rw[List.getElem?_take]at hu
      split at hu
      ·rw[List.getElem?_drop]at hu
       unfold World.cell?;rw[h1];simpa using hu
      ·cases hu
     obtain⟨cv,r1,r2⟩:=load_run (P:=P) hn ha hcell h5' h7.1 hp
     exact⟨_,cv,rfl,r1,r2⟩
  ·simp[Q.run]at hq
 ·simp[Q.run]at hq
include hρ
theorem ld_ok{d nx:Nat}{t:TypeId}{x:Operand}{x':Opd}{n:Nat}{ag:Bool}(ho:o.op= .load t x)(hx:opd x=some x')(hn:sizeT P t=some n)(ha:aggT P t=some ag)
  (hq:(opQ d st.rho (.ld x' n ag)).run st.get nx=some (.val v ups)):OpOk P B st a w β M o v ups:=by
 simp only[opQ,Q.run_bind]at hq
 cases hl:(ldAt (st.rho x') n ag).run st.get nx with
 |none=>simp[hl]at hq
 |some v'=>
  simp[hl,Q.run]at hq
  obtain⟨rfl,rfl⟩:=hq
  obtain⟨ad,cv,e,r1,r2⟩:=ldAt_run (P:=P) h hn ha (hρ x x' hx) hl
  exact same_ok h (cv:=cv) (by simp[execOp,ho,e,Instr.loadAt,Instr.sureAddr,r1]) r2
theorem fa_ok{d nx:Nat}{s:TypeId}{x:Operand}{x':Opd}{f n:Nat}{fs:Array Field}{fd:Field}(ho:o.op= .fieldAddr s x f)(hx:opd x=some x')(hs:P.underlying s=some (.struct fs))(hf:fs[f]? =some fd)(hn:sizeT P fd.type=some n)(h0:n≠0)
  (hq:(opQ d st.rho (.fa x' fd.offset)).run st.get nx=some (.val v ups)):OpOk P B st a w β M o v ups:=by
 have vx:=hρ x x' hx
 have run: ∀blk off,a.eval x= .pointer (some ⟨blk,off,none⟩)→(execOp a.eval o).run P w= .ok (.value (.pointer (some ⟨blk,off+fd.offset,none⟩))) w:=by
  intro blk off e
  simp[execOp,ho,e,Instr.fieldAt,run_underlying hs,hf,Instr.sureAddr,fieldPlace,sizeT_run hn,h0,add_none]
 simp only[opQ]at hq
 split at hq
 ·rename_i cs e
  split at hq
  ·rename_i hle
   simp[Q.run]at hq;obtain⟨rfl,rfl⟩:=hq
   rw[e]at vx
   simp only[VRel,PRel]at vx
   obtain⟨blk,off,e1,hc⟩:=vx
   refine same_ok h (run blk off e1) ?_
   simp only[VRel,PRel]
   exact⟨blk,_,rfl,PCells.drop _ hc hle⟩
  ·simp[Q.run]at hq
 ·rename_i sp k g off e
  simp[Q.run]at hq;obtain⟨rfl,rfl⟩:=hq
  rw[e]at vx
  simp only[VRel]at vx
  refine same_ok h (run _ _ vx.2) ?_
  simp only[VRel]
  exact⟨vx.1,by rw[Nat.add_assoc]⟩
 ·simp[Q.run]at hq
theorem fld_ok{d nx:Nat}{s:TypeId}{x:Operand}{x':Opd}{f n:Nat}{ag:Bool}{fs:Array Field}{fd:Field}(ho:o.op= .field s x f)(hx:opd x=some x')(hs:P.underlying s=some (.struct fs))(hf:fs[f]? =some fd)(hn:sizeT P fd.type=some n)(ha:aggT P fd.type=some ag)
  (hq:(opQ d st.rho (.fld x' fd.offset n ag)).run st.get nx=some (.val v ups)):OpOk P B st a w β M o v ups:=by
 have vx:=hρ x x' hx
 simp only[opQ]at hq
 split at hq
 ·rename_i cs e
  rw[e]at vx
  simp only[VRel]at vx
  obtain⟨arr,e1,hl,hs1⟩:=vx
  cases hp:Ev.part cs fd.offset n ag with
  |none=>simp[hp,Ev.val,Q.run]at hq
  |some v'=>
   simp[hp,Ev.val,Q.run]at hq;obtain⟨rfl,rfl⟩:=hq
   obtain⟨cv,r1,r2⟩:=part_run (P:=P) hn ha hl hs1 hp
   exact same_ok h (cv:=cv) (by simp[execOp,ho,e1,Instr.field,run_underlying hs,hf,asAgg,r1]) r2
 ·simp[Q.run]at hq
theorem ixA_ok{d nx:Nat}{t e:TypeId}{x j:Operand}{x' j':Opd}{len n:Nat}{ag:Bool}(ho:o.op= .index t x j)(hx:opd x=some x')(hj:opd j=some j')(ht:P.underlying t=some (.array len e))(hn:sizeT P e=some n)(ha:aggT P e=some ag)
  (hq:(opQ d st.rho (.ixA x' j' len n ag)).run st.get nx=some (.val v ups)):OpOk P B st a w β M o v ups:=by
 have vx:=hρ x x' hx
 have vj:=hρ j j' hj
 simp only[opQ]at hq
 split at hq
 ·rename_i jn cs e1 e2
  rw[e2]at vx
  simp only[VRel]at vx
  obtain⟨arr,e3,hl,hs1⟩:=vx
  split at hq
  ·rename_i hlt
   cases hp:Ev.part cs (jn*n) n ag with
   |none=>simp[hp,Ev.val,Q.run]at hq
   |some v'=>
    simp[hp,Ev.val,Q.run]at hq;obtain⟨rfl,rfl⟩:=hq
    unfold asNat at e1
    split at e1
    ·rename_i k m em
     split at e1
     ·rename_i hm
      simp at e1;subst e1
      rw[em]at vj
      have ej:=vj.int
      obtain⟨cv,r1,r2⟩:=part_run (P:=P) hn ha hl hs1 hp
      have:0≤m∧m<(len:Int):=by omega
      exact same_ok h (cv:=cv) (by simp[execOp,ho,e3,ej,Instr.index,run_underlying ht,asIntOf,this,sizeT_run hn,r1]) r2
     ·cases e1
    ·cases e1
  ·simp[Q.run]at hq
 ·simp[Q.run]at hq
omit h hρ in
theorem asNat_int{t:T}{n:Nat}(e:asNat t=some n): ∃k m,t= .i k m∧0≤m∧m.toNat=n:=by
 unfold asNat at e
 split at e
 ·rename_i k m
  split at e
  ·rename_i hm;simp at e;exact⟨k,m,rfl,hm,e⟩
  ·cases e
 ·cases e
theorem ixS_ok{d nx:Nat}{t:TypeId}{x j:Operand}{x' j':Opd}(ho:o.op= .index t x j)(hx:opd x=some x')(hj:opd j=some j')(ht:P.underlying t=some .string)
  (hq:(opQ d st.rho (.ixS x' j')).run st.get nx=some (.val v ups)):OpOk P B st a w β M o v ups:=by
 have vx:=hρ x x' hx
 have vj:=hρ j j' hj
 simp only[opQ]at hq
 split at hq
 ·rename_i jn bs e1 e2
  rw[e2]at vx
  obtain⟨arr,e3,rfl⟩:=vx.str
  obtain⟨k,m,em,hm,rfl⟩:=asNat_int e1
  rw[em]at vj
  have ej:=vj.int
  split at hq
  ·rename_i c hc
   simp[Q.run]at hq;obtain⟨rfl,rfl⟩:=hq
   unfold bytesN at hc
   rw[List.getElem?_map,Option.map_eq_some_iff]at hc
   obtain⟨u,hu,rfl⟩:=hc
   have hu':arr[m.toNat]? =some u:=by
    have:arr.data[m.toNat]? =some u:=by simpa using hu
    have hlt:=(Array.getElem?_eq_some_iff.1 this).1
    have:arr.data[m.toNat]=u:=(Array.getElem?_eq_some_iff.1 this).2
    show(if h:m.toNat<arr.size then some arr[m.toNat]else none)=some u
    have hlt':m.toNat<arr.size:=hlt
    rw[dif_pos hlt'];exact congrArg some this
   exact same_ok h (cv:= .int .u8 u.toNat) (by simp[execOp,ho,e3,ej,Instr.index,run_underlying ht,asIntOf,hm,hu']) (by simp only[VRel])
  ·simp[Q.run]at hq
 ·simp[Q.run]at hq
theorem ia_ok{d nx:Nat}{t e:TypeId}{x j:Operand}{x' j':Opd}{n:Nat}(ho:o.op= .indexAddr t x j)(hx:opd x=some x')(hj:opd j=some j')(ht:P.underlying t=some (.slice e))(hn:sizeT P e=some n)
  (hq:(opQ d st.rho (.ia x' j' n)).run st.get nx=some (.val v ups)):OpOk P B st a w β M o v ups:=by
 have vx:=hρ x x' hx
 have vj:=hρ j j' hj
 have run: ∀(blk off len cap:Nat) k (m:Int),a.eval x= .slice (some ⟨blk,off,none⟩) len cap→a.eval j= .int k m→0≤m→m.toNat<len→(execOp a.eval o).run P w= .ok (.value (.pointer (some ⟨blk,off+m.toNat*n,none⟩))) w:=by
  intro blk off len cap k m e1 e2 h1 h2
  have:0≤m∧m<(len:Int):=by omega
  simp[execOp,ho,e1,e2,Instr.indexAt,run_underlying ht,asIntOf,this,sizeT_run hn,add_none]
 simp only[opQ]at hq
 split at hq
 ·rename_i jn cs len ex e1 e2
  split at hq
  ·rename_i hc
   simp[Q.run]at hq;obtain⟨rfl,rfl⟩:=hq
   simp at hc
   obtain⟨k,m,em,hm,rfl⟩:=asNat_int e1
   rw[e2]at vx;rw[em]at vj
   simp only[VRel,PRel]at vx
   obtain⟨blk,off,cap,sp,e3,h1,h2,h5,h3⟩:=vx
   obtain rfl:sp=none:=h5.resolve_right (by have:=hc.1;omega)
   refine same_ok h (run _ _ _ _ _ _ e3 vj.int hm hc.1) ?_
   simp only[VRel,PRel]
   exact⟨_,_,rfl,PCells.drop _ h3 (by have:=hc.2;rw[Nat.add_mul]at this;omega)⟩
  ·simp[Q.run]at hq
 ·rename_i jn sp k g off len sz e1 e2
  split at hq
  ·rename_i hc
   simp[Q.run]at hq;obtain⟨rfl,rfl⟩:=hq
   simp at hc
   obtain⟨kk,m,em,hm,rfl⟩:=asNat_int e1
   rw[e2]at vx;rw[em]at vj
   simp only[VRel]at vx
   obtain⟨h1,cap,e3,h2,h3⟩:=vx
   refine same_ok h (run _ _ _ _ _ _ e3 vj.int hm hc.1) ?_
   simp only[VRel]
   exact⟨h1,by rw[Nat.add_assoc]⟩
  ·simp[Q.run]at hq
 ·simp[Q.run]at hq
theorem iaA_ok{d nx:Nat}{t e:TypeId}{x j:Operand}{x' j':Opd}{len n:Nat}(ho:o.op= .indexAddr t x j)(hx:opd x=some x')(hj:opd j=some j')(ht:P.underlying t=some (.array len e))(hn:sizeT P e=some n)
  (hq:(opQ d st.rho (.iaA x' j' len n)).run st.get nx=some (.val v ups)):OpOk P B st a w β M o v ups:=by
 have vx:=hρ x x' hx
 have vj:=hρ j j' hj
 have run: ∀(blk off:Nat) k (m:Int),a.eval x= .pointer (some ⟨blk,off,none⟩)→a.eval j= .int k m→0≤m→m.toNat<len→(execOp a.eval o).run P w= .ok (.value (.pointer (some ⟨blk,off+m.toNat*n,none⟩))) w:=by
  intro blk off k m e1 e2 h1 h2
  have:0≤m∧m<(len:Int):=by omega
  simp[execOp,ho,e1,e2,Instr.indexAt,run_underlying ht,asIntOf,Instr.sureAddr,this,sizeT_run hn,add_none]
 simp only[opQ]at hq
 split at hq
 ·rename_i jn cs e1 e2
  split at hq
  ·rename_i hc
   simp[Q.run]at hq;obtain⟨rfl,rfl⟩:=hq
   simp at hc
   obtain⟨k,m,em,hm,rfl⟩:=asNat_int e1
   rw[e2]at vx;rw[em]at vj
   simp only[VRel,PRel]at vx
   obtain⟨blk,off,e3,h3⟩:=vx
   refine same_ok h (run _ _ _ _ e3 vj.int hm hc.1) ?_
   simp only[VRel,PRel]
   exact⟨_,_,rfl,PCells.drop _ h3 (by have:=hc.2;rw[Nat.add_mul]at this;omega)⟩
  ·simp[Q.run]at hq
 ·rename_i jn sp k g off e1 e2
  split at hq
  ·rename_i hc
   simp[Q.run]at hq;obtain⟨rfl,rfl⟩:=hq
   obtain⟨kk,m,em,hm,rfl⟩:=asNat_int e1
   rw[e2]at vx;rw[em]at vj
   simp only[VRel]at vx
   refine same_ok h (run _ _ _ _ vx.2 vj.int hm hc) ?_
   simp only[VRel]
   exact⟨vx.1,by rw[Nat.add_assoc]⟩
  ·simp[Q.run]at hq
 ·simp[Q.run]at hq
end
end Go.Ev
namespace Go.Ev
open Go
theorem bytesN_extract(s:ByteArray)(l h:Nat):bytesN (s.extract l h)=((bytesN s).drop l).take (h-l):=by
 unfold bytesN
 rw[ByteArray.data_extract,Array.toList_extract,List.extract_eq_take_drop,List.map_take,List.map_drop]
theorem sliceBound_run{P:Program}{w:World}{k:IntKind}{m:Int}{y:Nat}{code:BoundsCode}(h1:0≤m)(h2:m.toNat≤y):(Instr.sliceBound (.int k m) y code).run P w= .ok m.toNat w:=by
 have:0≤m∧m≤(y:Int):=by omega
 simp[Instr.sliceBound,asIntOf,this]
section
variable{P:Program}{B:Base}{st:St}{a:Act}{w:World}{β:Beta}{M:MSet}{o:Oper}{v:T}{ups:List Up}
variable(hρ:RhoOk β st.gens w M st.rho a.eval)(h:HRel B st w β M)
include hρ in
theorem optVal_ok{x:Option Operand}{x':Option Opd}{dflt n:Nat}(hx:opdO x=some x')(e:optVal st.rho dflt x'=some n):
  (x=none∧x'=none∧n=dflt)∨ ∃y k m,x=some y∧a.eval y= .int k m∧0≤m∧m.toNat=n:=by
 cases x with
 |none=>simp[opdO]at hx;subst hx;simp[optVal]at e;exact .inl ⟨rfl,rfl,e.symm⟩
 |some y=>
  simp only[opdO,Option.map_eq_some_iff]at hx
  obtain⟨y',hy,rfl⟩:=hx
  simp only[optVal]at e
  obtain⟨k,m,em,hm,hn⟩:=asNat_int e
  have:=hρ y y' hy
  rw[em]at this
  exact .inr ⟨y,k,m,rfl,this.int,hm,hn⟩
include hρ in
theorem sliceBounds_run{lo hi:Option Operand}{lo' hi':Option Opd}{isS:Bool}{len cap l hh:Nat}(h1:opdO lo=some lo')(h2:opdO hi=some hi')(e1:optVal st.rho 0 lo'=some l)(e2:optVal st.rho len hi'=some hh)
  (hl:l≤hh) (hc:hh≤len) (hlc:len≤cap):(Instr.sliceBounds isS len cap (lo.map a.eval) (hi.map a.eval) none).run P w= .ok (l,hh,cap) w:=by
 unfold Instr.sliceBounds
 rcases optVal_ok hρ h1 e1 with⟨rfl,rfl,rfl⟩|⟨y,k,m,rfl,ey,hm,rfl⟩ <;> rcases optVal_ok hρ h2 e2 with⟨rfl,rfl,rfl⟩|⟨y2,k2,m2,rfl,ey2,hm2,rfl⟩
 ·simp
 ·simp[ey2,sliceBound_run hm2 (Nat.le_trans hc hlc)]
 ·simp[ey,sliceBound_run hm hl]
 ·simp[ey,ey2,sliceBound_run hm2 (Nat.le_trans hc hlc),sliceBound_run hm hl]
include hρ h
theorem slS_ok{d nx:Nat}{t:TypeId}{x:Operand}{x':Opd}{lo hi:Option Operand}{lo' hi':Option Opd}(ho:o.op= .slice t x lo hi none)(hx:opd x=some x')(h1:opdO lo=some lo')(h2:opdO hi=some hi')(ht:P.underlying t=some .string)
  (hq:(opQ d st.rho (.slS x' lo' hi')).run st.get nx=some (.val v ups)):OpOk P B st a w β M o v ups:=by
 have vx:=hρ x x' hx
 simp only[opQ]at hq
 split at hq
 ·rename_i bs e
  rw[e]at vx
  obtain⟨s,es,rfl⟩:=vx.str
  split at hq
  ·rename_i l hh e1 e2
   split at hq
   ·rename_i hc
    simp at hc
    simp[Q.run]at hq;obtain⟨rfl,rfl⟩:=hq
    rw[bytesN_length]at e2 hc
    have hb:=sliceBounds_run (P:=P) (w:=w) (isS:=false) hρ h1 h2 e1 e2 hc.1 hc.2 (Nat.le_refl _)
    refine same_ok h (cv:= .string (s.extract l hh)) ?_ (by simp only[VRel];exact⟨_,rfl,bytesN_extract s l hh⟩)
    simp[execOp,ho,es,Instr.sliceAt,run_underlying ht,Instr.slice,hb]
   ·simp[Q.run]at hq
  ·simp[Q.run]at hq
 ·simp[Q.run]at hq
theorem slV_ok{d nx:Nat}{t e:TypeId}{n:Nat}{x:Operand}{x':Opd}{lo hi mx:Option Operand}{lo' hi' mx':Option Opd}(ho:o.op= .slice t x lo hi mx)(hx:opd x=some x')(h1:opdO lo=some lo')(h2:opdO hi=some hi')(h3:opdO mx=some mx')
  (ht:P.underlying t=some (.slice e)) (hn:sizeT P e=some n) (h0:n≠0) (hmx:mx.isSome=true→hi.isSome=true)
  (hq:(opQ d st.rho (.slV n x' lo' hi' mx')).run st.get nx=some (.val v ups)):OpOk P B st a w β M o v ups:=by
 have vx:=hρ x x' hx
 simp only[opQ]at hq
 cases hlen:lenT (st.rho x')with
 |none=>simp[hlen,Q.run]at hq
 |some len=>
  simp only[hlen]at hq
  cases e1:optVal st.rho 0 lo' with
  |none=>simp[e1,Q.run]at hq
  |some l=>
   cases e2:optVal st.rho len hi' with
   |none=>simp[e1,e2,Q.run]at hq
   |some hh=>
    cases mx with
    |none=>
     simp[opdO]at h3;subst h3
     simp only[e1,e2,Q.run_bind]at hq
     have run: ∀(ad:Option Addr) cap,a.eval x= .slice ad len cap→l≤hh→hh≤len→len≤cap→
       (execOp a.eval o).run P w= .ok (.value (.slice (if cap=l then ad else ad.map (·.add (l*n))) (hh-l) (cap-l))) w:=by
      intro ad cap ex hl1 hl2 hl3
      have hb:=sliceBounds_run (P:=P) (w:=w) (isS:=true) hρ h1 h2 e1 e2 hl1 hl2 hl3
      simp[execOp,ho,ex,Instr.sliceAt,run_underlying ht,Instr.slice,hb,sizeT_run hn]
     cases hs:(slVAt n (st.rho x') l hh).run st.get nx with
     |none=>simp[hs]at hq
     |some v'=>
      simp[hs,Q.run]at hq;obtain⟨rfl,rfl⟩:=hq
      unfold slVAt at hs
      split at hs
      ·rename_i ex
       split at hs
       ·rename_i hc
        simp[Q.run]at hs;subst hs
        simp at hc;obtain⟨rfl,rfl⟩:=hc
        rw[ex]at vx hlen
        simp[lenT]at hlen;subst hlen
        simp only[VRel]at vx
        refine same_ok h (run _ _ vx (Nat.le_refl _) (Nat.le_refl _) (Nat.le_refl _)) ?_
        simp[VRel]
       ·simp[Q.run]at hs
      ·rename_i cs len' ex' ex
       rw[ex]at vx hlen
       simp[lenT]at hlen;subst hlen
       split at hs
       ·rename_i hc
        simp[Q.run]at hs;subst hs
        simp at hc
        obtain⟨⟨c1,c2⟩,c3⟩:=hc
        simp only[VRel,PRel]at vx
        obtain⟨blk,off,cap,sp,e3,p1,p2,p4,p3⟩:=vx
        refine same_ok h (run _ _ e3 c1 c2 p1) ?_
        simp only[VRel,PRel]
        by_cases hcap:cap=l
        ·rw[if_pos hcap]
         have:hh=l:=by omega
         subst this
         refine⟨blk,off,cap-hh,sp,by simp,by omega,fun hex=>by omega,.inr (by omega), ?_⟩
         simp[PCells]
        ·rw[if_neg hcap]
         obtain rfl:sp=none:=p4.resolve_right (by omega)
         refine⟨blk,off+l*n,cap-l,none,by simp[add_none],by omega,fun hex=> ?_,.inl rfl, ?_⟩
         ·simp at hex
          have:=p2 hex.1
          omega
         ·refine PCells.take _ (PCells.drop _ p3 ?_)
          rw[c3];exact Nat.mul_le_mul_right n (Nat.le_trans c1 c2)
       ·simp[Q.run]at hs
      ·rename_i sp k g off len' sz ex
       rw[ex]at vx hlen
       simp[lenT]at hlen;subst hlen
       split at hs
       ·rename_i hc
        simp[Q.run]at hs;subst hs
        simp at hc
        obtain⟨⟨c1,c2⟩,rfl⟩:=hc
        simp only[VRel]at vx
        obtain⟨q1,cap,e3,p1,p2⟩:=vx
        refine same_ok h (run _ _ e3 c1 c2 p1) ?_
        by_cases hlh:l=hh
        ·subst hlh
         rw[if_pos rfl]
         simp only[VRel,PRel]
         by_cases hcap:cap=l
         ·rw[if_pos hcap]
          exact⟨(β sp k g).blk,(β sp k g).off+off,cap-l,none,by simp,by omega,(fun e=>by cases e),.inl rfl,by simp[PCells]⟩
         ·rw[if_neg hcap]
          exact⟨(β sp k g).blk,(β sp k g).off+off+l*sz,cap-l,none,by simp[add_none],by omega,(fun e=>by cases e),.inl rfl,by simp[PCells]⟩
        ·rw[if_neg hlh,if_neg (by omega)]
         simp only[VRel]
         refine⟨q1,cap-l,by simp[add_none,Nat.add_assoc],by omega, ?_⟩
         have:(cap-l)*sz+l*sz=cap*sz:=by rw[←Nat.add_mul];congr 1;omega
         omega
       ·simp[Q.run]at hs
      ·simp[Q.run]at hs
    |some m=>
     simp only[opdO,Option.map_eq_some_iff]at h3
     obtain⟨m',hm',rfl⟩:=h3
     have vm:=hρ m m' hm'
     have run: ∀(ad:Option Addr) cap,a.eval x= .slice ad len cap→ ∀k (z:Int),a.eval m= .int k z→z=0→l=0→hh=0→
       (execOp a.eval o).run P w= .ok (.value (.slice ad 0 0)) w:=by
      intro ad cap ex k z em hz hl0 hh0
      subst hz;subst hl0;subst hh0
      have hb:(Instr.sliceBounds true len cap (lo.map a.eval) (hi.map a.eval) (some (.int k 0))).run P w= .ok (0,0,0) w:=by
       unfold Instr.sliceBounds
       rcases optVal_ok hρ h2 e2 with⟨rfl,rfl,hx0⟩|⟨y2,k2,m2,rfl,ey2,hm2,hz2⟩
       ·simp at hmx
       ·have b1:=sliceBound_run (P:=P) (w:=w) (k:=k) (m:=0) (y:=cap) (code:= .slice3Acap) (by omega) (by simp)
        have b2:=sliceBound_run (P:=P) (w:=w) (k:=k2) (m:=m2) (y:=0) (code:= .slice3B) hm2 (by omega)
        rcases optVal_ok hρ h1 e1 with⟨rfl,rfl,_⟩|⟨y,k1,m1,rfl,ey,hm,hz1⟩
        ·simp[ey2,b1,b2];omega
        ·have b3:=sliceBound_run (P:=P) (w:=w) (k:=k1) (m:=m1) (y:=m2.toNat) (code:= .slice3C) hm (by omega)
         simp[ey2,ey,b1,b2,b3];omega
      cases ad <;> simp[execOp,ho,ex,em,Instr.sliceAt,run_underlying ht,Instr.slice,hb,sizeT_run hn]
     simp only[e1,e2]at hq
     cases em:asNat (st.rho m')with
     |none=>simp[em,Q.run]at hq
     |some z=>
      obtain⟨km,zm,ez,hz1,hz2⟩:=asNat_int em
      rw[ez]at vm
      have vm':=vm.int
      split at hq
      ·rename_i em' ex
       rw[em]at em'
       simp at em';subst em'
       rw[ex]at vx hlen
       simp only[VRel]at vx
       simp[lenT]at hlen
       split at hq
       ·rename_i hc
        simp at hc
        simp[Q.run]at hq;obtain⟨rfl,rfl⟩:=hq
        exact same_ok h (run _ _ (by rw[vx,hlen]) km zm vm' (by omega) hc.1 hc.2) (by simp only[VRel])
       ·simp[Q.run]at hq
      ·rename_i em' hne
       rw[em]at em'
       simp at em';subst em'
       split at hq
       ·rename_i hc
        simp at hc
        simp[Q.run]at hq;obtain⟨rfl,rfl⟩:=hq
        have: ∃blk off cap sp,a.eval x= .slice (some ⟨blk,off,sp⟩) len cap:=by
         generalize st.rho x'=tx at*
         cases tx <;> simp[lenT]at hlen
         case nilsl=>exact absurd rfl hne
         case sl cs len' ex=>
          subst hlen
          simp only[VRel,PRel]at vx
          obtain⟨blk,off,cap,sp,e3,_⟩:=vx
          exact⟨blk,off,cap,sp,e3⟩
         case isl sp k g off len' sz=>
          subst hlen
          simp only[VRel]at vx
          obtain⟨_,cap,e3,_⟩:=vx
          exact⟨_,_,cap,none,e3⟩
        obtain⟨blk,off,cap,sp,e3⟩:=this
        refine same_ok h (run _ _ e3 km zm vm' (by omega) hc.1 hc.2) ?_
        simp only[VRel,PRel]
        exact⟨blk,off,0,sp,rfl,Nat.le_refl _,fun _=>rfl,.inr rfl,by simp[PCells]⟩
       ·simp[Q.run]at hq
      ·simp[Q.run]at hq
end
end Go.Ev
namespace Go.Ev
open Go
section
variable{P:Program}{B:Base}{st:St}{a:Act}{w:World}{β:Beta}{M:MSet}{o:Oper}{v:T}{ups:List Up}
theorem minmax_int{isMax:Bool}{x y:T}{ys:List T}{r:T}(h:minmax isMax x (y::ys)=some r): ∃k n,x= .i k n:=by
 unfold minmax at h
 split at h
 ·simp at*
 ·exact⟨_,_,rfl⟩
 ·cases h
theorem builtin_exec{c:Call}{b:Builtin}(ho:o.op= .call c)(hb:c.callee= .builtin b):
  (execOp a.eval o).run P w=(builtin b c.argTypes o.type (c.args.map fun| .const _=>true|_=>false) (c.args.map a.eval)).run P w:=by
 simp only[execOp,ho,resolve,hb,Sem.run_bind]
 rfl
theorem map_one{args:Array Operand}{x:Operand}(h:args.toList= [x])(f:Operand→Value):args.map f= #[f x]:=by
 apply Array.ext';simp[h]
theorem map_two{args:Array Operand}{x y:Operand}(h:args.toList= [x,y])(f:Operand→Value):args.map f= #[f x,f y]:=by
 apply Array.ext';simp[h]
variable(hρ:RhoOk β st.gens w M st.rho a.eval)(h:HRel B st w β M)
include hρ h
theorem lenS_ok{d nx:Nat}{c:Call}{t:TypeId}{x:Operand}{x':Opd}(ho:o.op= .call c)(hb:c.callee= .builtin .len)(ht:c.argTypes[0]? =some t)(ha:c.args.toList= [x])(hu:P.underlying t=some .string)(hx:opd x=some x')
  (hq:(opQ d st.rho (.lenS x')).run st.get nx=some (.val v ups)):OpOk P B st a w β M o v ups:=by
 have vx:=hρ x x' hx
 simp only[opQ]at hq
 split at hq
 ·rename_i bs e
  simp[Q.run]at hq;obtain⟨rfl,rfl⟩:=hq
  rw[e]at vx
  obtain⟨s,es,rfl⟩:=vx.str
  refine same_ok h (cv:= .int .i64 s.size) ?_ (by simp only[VRel,bytesN_length])
  rw[builtin_exec ho hb,map_one ha]
  simp[builtin,Builtin.len_,ht,es,run_underlying hu,goInt]
 ·simp[Q.run]at hq
theorem lenV_ok{d nx:Nat}{c:Call}{t e:TypeId}{x:Operand}{x':Opd}(ho:o.op= .call c)(hb:c.callee= .builtin .len)(ht:c.argTypes[0]? =some t)(ha:c.args.toList= [x])(hu:P.underlying t=some (.slice e))(hx:opd x=some x')
  (hq:(opQ d st.rho (.lenV x')).run st.get nx=some (.val v ups)):OpOk P B st a w β M o v ups:=by
 have vx:=hρ x x' hx
 simp only[opQ]at hq
 cases hl:lenT (st.rho x')with
 |none=>simp[hl,Ev.val,Q.run]at hq
 |some n=>
  simp[hl,Ev.val,Q.run]at hq;obtain⟨rfl,rfl⟩:=hq
  have: ∃ad cap,a.eval x= .slice ad n cap:=by
   generalize st.rho x'=tx at*
   cases tx <;> simp[lenT]at hl
   case nilsl=>subst hl;simp only[VRel]at vx;exact⟨_,_,vx⟩
   case sl cs len' ex=>subst hl;simp only[VRel,PRel]at vx;obtain⟨blk,off,cap,sp,e3,_⟩:=vx;exact⟨_,cap,e3⟩
   case isl sp k g off len' sz=>subst hl;simp only[VRel]at vx;obtain⟨_,cap,e3,_⟩:=vx;exact⟨_,cap,e3⟩
  obtain⟨ad,cap,e1⟩:=this
  refine same_ok h (cv:= .int .i64 n) ?_ (by simp only[VRel])
  rw[builtin_exec ho hb,map_one ha]
  simp[builtin,Builtin.len_,ht,e1,run_underlying hu,goInt]
theorem lenM_ok{d nx:Nat}{c:Call}{t kt et:TypeId}{x:Operand}{x':Opd}(ho:o.op= .call c)(hb:c.callee= .builtin .len)(ht:c.argTypes[0]? =some t)(ha:c.args.toList= [x])(hu:P.underlying t=some (.map kt et))(hx:opd x=some x')
  (hq:(opQ d st.rho (.lenM x')).run st.get nx=some (.val v ups)):OpOk P B st a w β M o v ups:=by
 have vx:=hρ x x' hx
 have run: ∀blk es clock,a.eval x= .map (some blk)→w.heap[blk]? =some (.map es clock)→(execOp a.eval o).run P w= .ok (.value (.int .i64 es.size)) w:=by
  intro blk es clock e1 e2
  rw[builtin_exec ho hb,map_one ha]
  simp[builtin,Builtin.len_,ht,e1,run_underlying hu,goInt,getObj,Sem.run,e2]
 simp only[opQ]at hq
 split at hq
 ·rename_i e
  simp[Q.run]at hq;obtain⟨rfl,rfl⟩:=hq
  rw[e]at vx;simp only[VRel]at vx
  refine same_ok h (cv:= .int .i64 0) ?_ (by simp only[VRel])
  rw[builtin_exec ho hb,map_one ha]
  simp[builtin,Builtin.len_,ht,vx,run_underlying hu,goInt]
 ·rename_i ks vs e
  simp[Q.run]at hq;obtain⟨rfl,rfl⟩:=hq
  rw[e]at vx;simp only[VRel,PRel]at vx
  obtain⟨blk,es,clock,e1,e2,_,_,e3,_⟩:=vx
  refine same_ok h (run blk es clock e1 e2) ?_
  simp only[VRel]
  have:=PList.length _ _ e3
  simp at this;rw[this]
 ·rename_i sp k g e
  simp only[Q.run]at hq
  split at hq
  ·rename_i hg
   have hob:=h.obj sp k
   generalize he:st.get sp k=en at*
   obtain⟨ge,ob⟩:=en
   dsimp only at hg;subst hg
   cases ob with
   |none=>simp[Q.run]at hq
   |cells _ _ _=>simp[Q.run]at hq
   |map ks vs f=>
    simp[Q.run]at hq;obtain⟨rfl,rfl⟩:=hq
    rw[e]at vx;simp only[VRel]at vx
    unfold ORel at hob
    obtain⟨es,clock,e2,_,e3,_⟩:=hob
    refine same_ok h (run _ es clock vx.2 e2) ?_
    simp only[VRel]
    have:=PList.length _ _ e3
    simp at this;rw[this]
  ·simp[Q.run]at hq
 ·simp[Q.run]at hq
omit hρ in
theorem lenC_ok{c:Call}{t e:TypeId}{n:Nat}{x:Operand}(ho:o.op= .call c)(hb:c.callee= .builtin .len)(ht:c.argTypes[0]? =some t)(ha:c.args.toList= [x])(hu:P.underlying t=some (.array n e)):
  OpOk P B st a w β M o (.i .i64 n) []:=by
 refine same_ok h (cv:= .int .i64 n) ?_ (by simp only[VRel])
 rw[builtin_exec ho hb,map_one ha]
 simp[builtin,Builtin.len_,ht,run_underlying hu,goInt]
omit hρ h in
theorem min_run{k:IntKind}: ∀(rest:List T) (vs:List Value) (x:Int) (r:T),VList β st.gens w M rest vs→minmax false (.i k x) rest=some r→ ∃n,r= .i k n∧(vs.foldlM Builtin.min2 (.int k x)).run P w= .ok (.int k n) w
 | [],vs,x,r,hl,hm=>by
   simp only[VList]at hl;subst hl
   simp[minmax]at hm;subst hm
   exact⟨x,rfl,by simp⟩
 |t::ts,vs,x,r,hl,hm=>by
  simp only[VList]at hl
  obtain⟨u,us,rfl,h1,h2⟩:=hl
  cases t <;> simp only[minmax]at hm <;> try (cases hm;done)
  rename_i k' y
  split at hm
  ·rename_i hk;subst hk
   have:=h1.int;subst this
   obtain⟨n,e1,e2⟩:=min_run ts us _ r h2 hm
   refine⟨n,e1, ?_⟩
   simp only[List.foldlM_cons,Sem.run_bind,Builtin.min2,Sem.run_pure,Result.andThen_ok]
   simpa using e2
  ·cases hm
omit hρ h in
theorem max_run{k:IntKind}: ∀(rest:List T) (vs:List Value) (x:Int) (r:T),VList β st.gens w M rest vs→minmax true (.i k x) rest=some r→ ∃n,r= .i k n∧(vs.foldlM Builtin.max2 (.int k x)).run P w= .ok (.int k n) w
 | [],vs,x,r,hl,hm=>by
   simp only[VList]at hl;subst hl
   simp[minmax]at hm;subst hm
   exact⟨x,rfl,by simp⟩
 |t::ts,vs,x,r,hl,hm=>by
  simp only[VList]at hl
  obtain⟨u,us,rfl,h1,h2⟩:=hl
  cases t <;> simp only[minmax]at hm <;> try (cases hm;done)
  rename_i k' y
  split at hm
  ·rename_i hk;subst hk
   have:=h1.int;subst this
   obtain⟨n,e1,e2⟩:=max_run ts us _ r h2 hm
   refine⟨n,e1, ?_⟩
   simp only[List.foldlM_cons,Sem.run_bind,Builtin.max2,Sem.run_pure,Result.andThen_ok]
   simpa using e2
  ·cases hm
theorem mm_ok{d nx:Nat}{isMax:Bool}{c:Call}{as:List Opd}(ho:o.op= .call c)(hb:c.callee= .builtin (if isMax then .max else .min))(ha:opds c.args.toList=some as)
  (hq:(opQ d st.rho (.mm isMax as)).run st.get nx=some (.val v ups)):OpOk P B st a w β M o v ups:=by
 have hl:=opds_ok hρ ha
 simp only[opQ]at hq
 split at hq
 ·rename_i x rest e
  cases hm:minmax isMax x rest with
  |none=>simp[hm,Ev.val,Q.run]at hq
  |some r=>
   simp[hm,Ev.val,Q.run]at hq;obtain⟨rfl,rfl⟩:=hq
   rw[e]at hl
   simp only[VList]at hl
   obtain⟨u,us,e2,h1,h2⟩:=hl
   cases rest with
   |nil=>
    simp[minmax]at hm;subst hm
    simp only[VList]at h2;subst h2
    refine same_ok h (cv:=u) ?_ h1
    rw[builtin_exec ho hb]
    cases isMax <;> simp[builtin,Builtin.min_,Builtin.max_,e2]
   |cons y ys=>
    obtain⟨k,xn,rfl⟩:=minmax_int hm
    have:=h1.int;subst this
    cases isMax with
    |false=>
     obtain⟨n,e3,e4⟩:=min_run (P:=P) (y::ys) us xn r h2 hm
     subst e3
     refine same_ok h (cv:= .int k n) ?_ (by simp only[VRel])
     rw[builtin_exec ho hb]
     simp[builtin,Builtin.min_,e2,e4]
    |true=>
     obtain⟨n,e3,e4⟩:=max_run (P:=P) (y::ys) us xn r h2 hm
     subst e3
     refine same_ok h (cv:= .int k n) ?_ (by simp only[VRel])
     rw[builtin_exec ho hb]
     simp[builtin,Builtin.max_,e2,e4]
 ·simp[Q.run]at hq
end
theorem ck_und{P:Program}{t:TypeId}{k:CK}(h:ckOf P t=some k):match k with| .int=> ∃ik,P.underlying t=some (.int ik)| .str=>P.underlying t=some .string| .bool=>P.underlying t=some .bool:=by
 unfold ckOf at h
 split at h <;> simp at h <;> subst h
 ·rename_i ik e;exact⟨ik,e⟩
 ·rename_i e;exact e
 ·rename_i e;exact e
theorem eqCell_run{P:Program}{β:Beta}{G:Sp→Nat→Nat}{w:World}{M:MSet}{t:TypeId}{k:CK}{x y:T}{cx cy:Value}{r:Bool}(d:Nat)(hk:ckOf P t=some k)(hx:VRel β G w M x cx)(hy:VRel β G w M y cy)(h:eqCell k x y=some r):
  (Op.equalIn (d+1) t cx cy).run P w= .ok r w:=by
 have hu:=ck_und hk
 unfold eqCell at h
 split at h
 ·simp at h;subst h
  rw[hx.bool,hy.bool]
  exact run_equalIn_bool' w d t _ _ hu
 ·split at h
  ·rename_i e;subst e
   simp at h;subst h
   obtain⟨ik,hu⟩:=hu
   rw[hx.int,hy.int]
   exact run_equalIn_int w d t _ ik _ _ hu
  ·cases h
 ·simp at h;subst h
  obtain⟨bx,e1,rfl⟩:=hx.str
  obtain⟨bY,e2,rfl⟩:=hy.str
  rw[e1,e2,run_equalIn_string w d t _ _ hu,bytesN_toList,bytesN_toList,toNat_inj_list]
 ·cases h
theorem eqFields_run{P:Program}{β:Beta}{G:Sp→Nat→Nat}{w:World}{M:MSet}(d:Nat){xa ya:Array Value}{xs ys:List T}(hx:VList β G w M xs xa.toList)(hy:VList β G w M ys ya.toList):
  ∀(fs:List Field) (i:Nat) (ks:List CK) (r:Bool),ckFields P i fs=some ks→eqCells ks (xs.drop i) (ys.drop i)=some r→(Op.eqFields (d+1) xa ya fs).run P w= .ok r w
 | [],i,ks,r,hk,he=>by
   simp[ckFields]at hk;subst hk
   generalize xs.drop i=xd at he
   generalize ys.drop i=yd at he
   cases xd <;> cases yd <;> simp[eqCells]at he
   subst he;simp[Op.eqFields]
 |f::fs,i,ks,r,hk,he=>by
  simp only[ckFields]at hk
  split at hk
  ·rename_i hc
   simp at hc
   obtain⟨⟨c1,c2⟩,c3⟩:=hc
   split at hk
   ·rename_i k ks' h1 h2
    simp at hk;subst hk
    cases hx1:xs.drop i with
    |nil=>rw[hx1]at he;cases ys.drop i <;> simp[eqCells]at he
    |cons x xr=>
     cases hy1:ys.drop i with
     |nil=>rw[hx1,hy1]at he;simp[eqCells]at he
     |cons y yr=>
      rw[hx1,hy1]at he
      simp only[eqCells]at he
      have gx:xs[i]? =some x:=by have:=congrArg (·[0]?) hx1;simpa using this
      have gy:ys[i]? =some y:=by have:=congrArg (·[0]?) hy1;simpa using this
      obtain⟨cx,ax,vx⟩:=hx.get gx
      obtain⟨cy,ay,vy⟩:=hy.get gy
      have agg:aggT P f.type=some false:=by
       have:=ck_und h1
       unfold aggT
       cases k
       ·obtain⟨ik,e⟩:=this;simp[e]
       ·simp[this]
       ·simp[this]
      have hnx:(Go.part f.type xa f.offset).run P w= .ok cx w:=by
       unfold Go.part;simp only[Sem.run_bind,aggT_run agg,Result.andThen_ok]
       have:xa[i]? =some cx:=by simpa using ax
       simp[c1,this]
      have hny:(Go.part f.type ya f.offset).run P w= .ok cy w:=by
       unfold Go.part;simp only[Sem.run_bind,aggT_run agg,Result.andThen_ok]
       have:ya[i]? =some cy:=by simpa using ay
       simp[c1,this]
      have hxd:xs.drop (i+1)=xr:=by rw[←List.drop_drop,hx1];rfl
      have hyd:ys.drop (i+1)=yr:=by rw[←List.drop_drop,hy1];rfl
      simp only[Op.eqFields,if_pos (show f.name≠ "_" from c2),Sem.run_bind,hnx,hny,Result.andThen_ok]
      cases hc:eqCell k x y with
      |none=>simp[hc]at he
      |some b=>
       rw[eqCell_run d h1 vx vy hc]
       cases b with
       |false=>simp[hc]at he;subst he;simp
       |true=>
        simp only[hc]at he
        simp only[Result.andThen_ok,Bool.not_true,Bool.false_eq_true,if_false]
        exact eqFields_run d hx hy fs (i+1) ks' r h2 (by rw[hxd,hyd];exact he)
   ·cases hk
  ·cases hk
theorem ek_cases{P:Program}{t:TypeId}{k:EK}(h:ekOf P t=some k):match k with
  | .one c=>ckOf P t=some c
  | .flat ks=> ∃fs,P.underlying t=some (.struct fs)∧P.eqGuardType P.depth t=false∧P.stoodInHeld t=false∧ckFields P 0 fs.toList=some ks
  | .sl=> ∃e,P.underlying t=some (.slice e)
  | .ptr=> ∃e,P.underlying t=some (.pointer e)
  | .map=> ∃a b,P.underlying t=some (.map a b):=by
 unfold ekOf at h
 split at h
 ·simp at h;subst h;rename_i e;simp[ckOf,e]
 ·simp at h;subst h;rename_i e;simp[ckOf,e]
 ·simp at h;subst h;rename_i e;simp[ckOf,e]
 ·simp at h;subst h;rename_i x e;exact⟨x,e⟩
 ·simp at h;subst h;rename_i x e;exact⟨x,e⟩
 ·simp at h;subst h;rename_i x y e;exact⟨x,y,e⟩
 ·rename_i fs e
  split at h
  ·rename_i hc
   simp only[Option.map_eq_some_iff]at h
   obtain⟨ks,h1,rfl⟩:=h
   simp at hc
   exact⟨fs,e,hc.1,hc.2,h1⟩
  ·cases h
 ·cases h
theorem equalIn_ptr_nil{P:Program}(w:World)(d:Nat)(t e:TypeId)(p:Option Addr)(h:P.underlying t=some (.pointer e)):(Op.equalIn (d+1) t (.pointer p) (.pointer none)).run P w= .ok p.isNone w:=by
 cases p <;> simp[Op.equalIn,run_underlying h]
theorem equal_ptr_nil{P:Program}(w:World)(t e:TypeId)(p:Option Addr)(h:P.underlying t=some (.pointer e)):(Op.equal t (.pointer p) (.pointer none)).run P w= .ok p.isNone w:=equalIn_ptr_nil w 9999 t e p h
theorem eqT_run{P:Program}{β:Beta}{G:Sp→Nat→Nat}{w:World}{M:MSet}{t:TypeId}{k:EK}{x y:T}{cx cy:Value}{r:Bool}(hk:ekOf P t=some k)(hx:VRel β G w M x cx)(hy:VRel β G w M y cy)(h:eqT k x y=some r):
  (Op.equal t cx cy).run P w= .ok r w:=by
 have hu:=ek_cases hk
 unfold eqT at h
 split at h
 ·exact eqCell_run 9999 hu hx hy h
 ·rename_i ks xs ys
  obtain⟨fs,u1,u2,u3,u4⟩:=hu
  simp only[VRel]at hx hy
  obtain⟨xa,rfl,lx,_⟩:=hx
  obtain⟨ya,rfl,ly,_⟩:=hy
  have hf:P.fieldsOf t=fs:=by simp[Program.fieldsOf,u1]
  have:=run_equalIn_struct w 9999 t xa ya (by rw[hf];exact u1) u3
  rw[hf]at this
  exact this.trans (eqFields_run 9998 lx ly _ 0 ks r u4 (by simpa using h))
 ·simp at h;subst h
  obtain⟨e,hu⟩:=hu
  simp only[VRel]at hx hy;subst hx;subst hy
  exact run_equal_slice_nil w t e _ _ _ hu
 ·simp at h;subst h
  obtain⟨e,hu⟩:=hu
  simp only[VRel,PRel]at hx hy
  obtain⟨_,_,_,_,rfl,_⟩:=hx;subst hy
  exact run_equal_slice_nil w t e _ _ _ hu
 ·simp at h;subst h
  obtain⟨e,hu⟩:=hu
  simp only[VRel]at hx hy
  obtain⟨_,_,rfl,_⟩:=hx;subst hy
  exact run_equal_slice_nil w t e _ _ _ hu
 ·simp at h;subst h
  obtain⟨e,hu⟩:=hu
  simp only[VRel]at hx hy;subst hx;subst hy
  exact equal_ptr_nil w t e _ hu
 ·simp at h;subst h
  obtain⟨e,hu⟩:=hu
  simp only[VRel,PRel]at hx hy
  obtain⟨_,_,rfl,_⟩:=hx;subst hy
  exact equal_ptr_nil w t e _ hu
 ·simp at h;subst h
  obtain⟨e,hu⟩:=hu
  simp only[VRel]at hx hy
  obtain⟨_,rfl⟩:=hx;subst hy
  exact equal_ptr_nil w t e _ hu
 ·simp at h;subst h
  obtain⟨e,e',hu⟩:=hu
  simp only[VRel]at hx hy;subst hx;subst hy
  exact run_equal_map_nil w t e e' _ hu
 ·simp at h;subst h
  obtain⟨e,e',hu⟩:=hu
  simp only[VRel,PRel]at hx hy
  obtain⟨_,_,_,rfl,_⟩:=hx;subst hy
  exact run_equal_map_nil w t e e' _ hu
 ·simp at h;subst h
  obtain⟨e,e',hu⟩:=hu
  simp only[VRel]at hx hy
  obtain⟨_,rfl⟩:=hx;subst hy
  exact run_equal_map_nil w t e e' _ hu
 ·cases h
end Go.Ev
namespace Go.Ev
open Go
section
variable{P:Program}{B:Base}{st:St}{a:Act}{w:World}{β:Beta}{M:MSet}{o:Oper}{v:T}{ups:List Up}
variable(hρ:RhoOk β st.gens w M st.rho a.eval)(h:HRel B st w β M)
include hρ h in
theorem eq_ok{neg:Bool}{k:EK}{t t':TypeId}{x y:Operand}{x' y':Opd}(ho:o.op= .binOp (if neg then .neq else .eql) t x y t')(hx:opd x=some x')(hy:opd y=some y')(hk:ekOf P t=some k)(hn:k≠ .one .int∧k≠ .one .str){r:Bool}
  (hq:eqT k (st.rho x') (st.rho y')=some r):OpOk P B st a w β M o (.b (r != neg)) []:=by
 have vx:=hρ x x' hx
 have vy:=hρ y y' hy
 have he:=eqT_run (P:=P) hk vx vy hq
 have hu:=ek_cases hk
 refine same_ok h (cv:= .bool (r != neg)) ?_ (by simp only[VRel])
 generalize st.rho x'=tx at*
 generalize st.rho y'=ty at*
 have fin: ∀cx cy,a.eval x=cx→a.eval y=cy→(eqGuard (if neg then .neq else .eql) t x y cx cy).run P w= .ok () w→
   ((binOp .eql t cx cy)=(do pure (.bool (←Op.equal t cx cy))))→((binOp .neq t cx cy)=(do pure (.bool (!(←Op.equal t cx cy)))))→(execOp a.eval o).run P w= .ok (.value (.bool (r != neg))) w:=by
  intro cx cy e1 e2 e3 e4 e5
  rw[e1,e2]at he
  cases neg
  ·simp at e3
   simp[execOp,ho,e1,e2,e3,e4,he]
  ·simp at e3
   simp[execOp,ho,e1,e2,e3,e5,he]
 have g0: ∀cx cy,(∀z,cx≠ .agg z)→cx≠ .nilIface→(eqGuard (if neg then .neq else .eql) t x y cx cy).run P w= .ok () w:=by
  intro cx cy h1 h2
  cases neg <;> cases cx <;> simp[eqGuard]at*
 unfold eqT at hq
 split at hq
 ·rename_i c
  unfold eqCell at hq
  split at hq
  ·exact fin _ _ vx.bool vy.bool (g0 _ _ (by simp) (by simp)) rfl rfl
  ·exact absurd rfl hn.1
  ·exact absurd rfl hn.2
  ·cases hq
 ·obtain⟨fs,u1,u2,u3,u4⟩:=hu
  simp only[VRel]at vx vy
  obtain⟨xa,e1,_⟩:=vx
  obtain⟨ya,e2,_⟩:=vy
  exact fin _ _ e1 e2 (run_eqGuard_agg w _ t x y xa ya u2) rfl rfl
 ·simp only[VRel]at vx vy
  exact fin _ _ vx vy (g0 _ _ (by simp) (by simp)) rfl rfl
 ·simp only[VRel,PRel]at vx vy
  obtain⟨_,_,_,_,e1,_⟩:=vx
  exact fin _ _ e1 vy (g0 _ _ (by simp) (by simp)) rfl rfl
 ·simp only[VRel]at vx vy
  obtain⟨_,_,e1,_⟩:=vx
  exact fin _ _ e1 vy (g0 _ _ (by simp) (by simp)) rfl rfl
 ·simp only[VRel]at vx vy
  exact fin _ _ vx vy (g0 _ _ (by simp) (by simp)) rfl rfl
 ·simp only[VRel,PRel]at vx vy
  obtain⟨_,_,e1,_⟩:=vx
  exact fin _ _ e1 vy (g0 _ _ (by simp) (by simp)) rfl rfl
 ·simp only[VRel]at vx vy
  exact fin _ _ vx.2 vy (g0 _ _ (by simp) (by simp)) rfl rfl
 ·simp only[VRel]at vx vy
  exact fin _ _ vx vy (g0 _ _ (by simp) (by simp)) rfl rfl
 ·simp only[VRel,PRel]at vx vy
  obtain⟨_,_,_,e1,_⟩:=vx
  exact fin _ _ e1 vy (g0 _ _ (by simp) (by simp)) rfl rfl
 ·simp only[VRel]at vx vy
  exact fin _ _ vx.2 vy (g0 _ _ (by simp) (by simp)) rfl rfl
 ·cases hq
end
theorem sameNow_ok{P:Program}{β:Beta}{G:Sp→Nat→Nat}{w:World}{M:MSet}{t:TypeId}{c:CK}{kd:TypeDesc}{k x:T}{kv xv:Value}{b:Bool}(hc:ckOf P t=some c)(hu:P.underlying t=some kd)(hk:VRel β G w M k kv)(hx:VRel β G w M x xv)(h:eqCell c k x=some b):
  Instr.sameNow kd kv xv=some b:=by
 have hu':=ck_und hc
 unfold eqCell at h
 split at h
 ·simp at h;subst h
  rw[hk.bool,hx.bool]
  simp only at hu'
  rw[hu]at hu';simp at hu';subst hu'
  rfl
 ·split at h
  ·rename_i e;subst e
   simp at h;subst h
   obtain⟨ik,hu'⟩:=hu'
   rw[hu]at hu';simp at hu';subst hu'
   rw[hk.int,hx.int];simp[Instr.sameNow]
  ·cases h
 ·simp at h;subst h
  simp only at hu'
  rw[hu]at hu';simp at hu';subst hu'
  obtain⟨b1,e1,rfl⟩:=hk.str
  obtain⟨b2,e2,rfl⟩:=hx.str
  rw[e1,e2]
  simp[Instr.sameNow,beq_toListBytes,bytesN_toList,toNat_inj_list]
 ·cases h
def Found(es:List MapEntry)(off:Nat)(r:Option Nat)(res:Option (Nat×Value)):Prop:=
 match r with
 |none=>res=none
 |some i=> ∃e,es[i]? =some e∧res=some (off+i,e.val)
theorem findNow_ok{P:Program}{β:Beta}{G:Sp→Nat→Nat}{w:World}{M:MSet}{t:TypeId}{c:CK}{kd:TypeDesc}{k:T}{kv:Value}(hc:ckOf P t=some c)(hu:P.underlying t=some kd)(hk:VRel β G w M k kv):
  ∀(es:List MapEntry) (ks:List T) (off:Nat) (r:Option Nat),PList w M ks (es.map (·.key))→findI (.one c) k ks=some r→ ∃res,Instr.findNow kd kv es off=some res∧Found es off r res
 | [],ks,off,r,hl,hf=>by
   cases ks with
   |nil=>simp[findI]at hf;subst hf;exact⟨none,rfl,rfl⟩
   |cons x xs=>simp[PList]at hl
 |e::es,ks,off,r,hl,hf=>by
  cases ks with
  |nil=>simp[PList]at hl
  |cons x xs=>
   simp only[List.map_cons,PList,List.cons.injEq]at hl
   obtain⟨u,us,⟨rfl,rfl⟩,h1,h2⟩:=hl
   simp only[findI,eqT]at hf
   cases hb:eqCell c k x with
   |none=>simp[hb]at hf
   |some b=>
    have hs:=sameNow_ok hc hu hk (PRel.toV β G _ _ h1) hb
    cases b with
    |true=>
     simp[hb]at hf;subst hf
     exact⟨some (off,e.val),by simp[Instr.findNow,hs],e,rfl,rfl⟩
    |false=>
     simp only[hb,Option.map_eq_some_iff]at hf
     obtain⟨r',h3,rfl⟩:=hf
     obtain⟨res,e1,e2⟩:=findNow_ok hc hu hk es xs (off+1) r' h2 h3
     refine⟨res,by simp[Instr.findNow,hs,e1], ?_⟩
     cases r' with
     |none=>exact e2
     |some i=>
      obtain⟨e',a1,a2⟩:=e2
      exact⟨e',by simpa using a1,by rw[a2];simp;omega⟩
theorem findAsking_ok{P:Program}{β:Beta}{G:Sp→Nat→Nat}{w:World}{M:MSet}{t:TypeId}{ek:EK}{k:T}{kv:Value}(hc:ekOf P t=some ek)(hk:VRel β G w M k kv):
  ∀(es:List MapEntry) (ks:List T) (off:Nat) (r:Option Nat),PList w M ks (es.map (·.key))→findI ek k ks=some r→ ∃res,(Instr.findAsking t kv es off).run P w= .ok res w∧Found es off r res
 | [],ks,off,r,hl,hf=>by
   cases ks with
   |nil=>simp[findI]at hf;subst hf;exact⟨none,by simp[Instr.findAsking],rfl⟩
   |cons x xs=>simp[PList]at hl
 |e::es,ks,off,r,hl,hf=>by
  cases ks with
  |nil=>simp[PList]at hl
  |cons x xs=>
   simp only[List.map_cons,PList,List.cons.injEq]at hl
   obtain⟨u,us,⟨rfl,rfl⟩,h1,h2⟩:=hl
   simp only[findI]at hf
   cases hb:eqT ek k x with
   |none=>simp[hb]at hf
   |some b=>
    have hs:=eqT_run (P:=P) hc hk (PRel.toV β G _ _ h1) hb
    cases b with
    |true=>
     simp[hb]at hf;subst hf
     exact⟨some (off,e.val),by simp[Instr.findAsking,hs],e,rfl,rfl⟩
    |false=>
     simp only[hb,Option.map_eq_some_iff]at hf
     obtain⟨r',h3,rfl⟩:=hf
     obtain⟨res,e1,e2⟩:=findAsking_ok hc hk es xs (off+1) r' h2 h3
     refine⟨res,by simp[Instr.findAsking,hs,e1], ?_⟩
     cases r' with
     |none=>exact e2
     |some i=>
      obtain⟨e',a1,a2⟩:=e2
      exact⟨e',by simpa using a1,by rw[a2];simp;omega⟩
theorem key_ek{P:Program}{t:TypeId}{ek:EK}(h:keyOf P t=some ek):ekOf P t=some ek∧((∃c,ek= .one c)∨ ∃ks,ek= .flat ks):=by
 unfold keyOf at h
 split at h
 ·rename_i c e;simp at h;subst h;exact⟨e,.inl ⟨c,rfl⟩⟩
 ·rename_i c e;simp at h;subst h;exact⟨e,.inr ⟨c,rfl⟩⟩
 ·cases h
theorem findKey_ok{P:Program}{β:Beta}{G:Sp→Nat→Nat}{w:World}{M:MSet}{t:TypeId}{ek:EK}{k:T}{kv:Value}(hc:keyOf P t=some ek)(hk:VRel β G w M k kv)(es:List MapEntry)(ks:List T)(r:Option Nat)(hl:PList w M ks (es.map (·.key)))
  (hf:findI ek k ks=some r): ∃res,(Instr.findKey t kv es).run P w= .ok res w∧Found es 0 r res:=by
 obtain⟨he,hkind⟩:=key_ek hc
 unfold Instr.findKey
 rcases hkind with⟨c,rfl⟩|⟨ck,rfl⟩
 ·have hck:=ek_cases he
  simp only at hck
  have: ∃kd,P.underlying t=some kd:=by
   have:=ck_und hck
   cases c
   ·obtain⟨ik,e⟩:=this;exact⟨_,e⟩
   ·exact⟨_,this⟩
   ·exact⟨_,this⟩
  obtain⟨kd,hu⟩:=this
  obtain⟨res,e1,e2⟩:=findNow_ok hck hu hk es ks 0 r hl hf
  exact⟨res,by simp[run_underlying hu,e1],e2⟩
 ·obtain⟨fs,u1,_⟩:=ek_cases he
  obtain⟨res,e1,e2⟩:=findAsking_ok (P:=P) he hk es ks 0 r hl hf
  cases es with
  |nil=>
   refine⟨res, ?_,e2⟩
   have:res=none:=by
    cases ks with
    |nil=>simp[findI]at hf;subst hf;exact e2
    |cons x xs=>simp[PList]at hl
   subst this
   simp[run_underlying u1,Instr.findNow]
  |cons e es=>
   refine⟨res, ?_,e2⟩
   have:Instr.sameNow (.struct fs) kv e.key=none:=by unfold Instr.sameNow;split <;> simp_all
   simp[run_underlying u1,Instr.findNow,this,e1]
theorem checkKey_one{P:Program}{w:World}{t:TypeId}{c:CK}(hc:ckOf P t=some c)(n:Nat)(em:Bool)(v:Value):(Instr.checkKey em (n+1) t v).run P w= .ok () w:=by
 have:=ck_und hc
 cases c
 ·obtain⟨ik,e⟩:=this;simp[Instr.checkKey,run_underlying e]
 ·simp[Instr.checkKey,run_underlying this]
 ·simp[Instr.checkKey,run_underlying this]
theorem checkKey_fields{P:Program}{w:World}(n:Nat)(em:Bool)(cs:Array Value): ∀(fs:List Field) (i:Nat) (ks:List CK),ckFields P i fs=some ks→i+ks.length≤cs.size→
  (forIn fs PUnit.unit (fun f (_:PUnit)=>
    if f.name≠ "_" then(do
     let p ←Go.part f.type cs f.offset
     Instr.checkKey em (n+1) f.type p
     pure (ForInStep.yield PUnit.unit))else pure (ForInStep.yield PUnit.unit):Field→PUnit→Sem (ForInStep PUnit))).run P w= .ok PUnit.unit w
 | [],i,ks,hk,hs=>by simp
 |f::fs,i,ks,hk,hs=>by
  simp only[ckFields]at hk
  split at hk
  ·rename_i hc
   simp at hc
   obtain⟨⟨c1,c2⟩,c3⟩:=hc
   split at hk
   ·rename_i k ks' h1 h2
    simp at hk;subst hk
    have agg:aggT P f.type=some false:=by
     have:=ck_und h1
     unfold aggT
     cases k
     ·obtain⟨ik,e⟩:=this;simp[e]
     ·simp[this]
     ·simp[this]
    have hi:i<cs.size:=by simp at hs;omega
    have hn:(Go.part f.type cs f.offset).run P w= .ok cs[i] w:=by
     unfold Go.part;simp only[Sem.run_bind,aggT_run agg,Result.andThen_ok]
     have:cs[i]? =some cs[i]:=Array.getElem?_eq_getElem hi
     simp[c1,this]
    have ih:=checkKey_fields (P:=P) (w:=w) n em cs fs (i+1) ks' h2 (by simp at hs;omega)
    simp only[List.forIn_cons,Sem.run_bind,if_pos (show f.name≠ "_" from c2),hn,Result.andThen_ok,checkKey_one h1,Sem.run_pure]
    exact ih
   ·cases hk
  ·cases hk
theorem checkKey_ok{P:Program}{β:Beta}{G:Sp→Nat→Nat}{w:World}{M:MSet}{t:TypeId}{ek:EK}{k:T}{kv:Value}(hc:keyOf P t=some ek)(hk:VRel β G w M k kv)(hik:isKey ek k=true)(n:Nat)(em:Bool):
  (Instr.checkKey em (n+2) t kv).run P w= .ok () w:=by
 obtain⟨he,hkind⟩:=key_ek hc
 rcases hkind with⟨c,rfl⟩|⟨ck,rfl⟩
 ·exact checkKey_one (ek_cases he) (n+1) em kv
 ·obtain⟨fs,u1,_,_,u4⟩:=ek_cases he
  unfold isKey at hik
  split at hik
  ·simp_all
  ·rename_i ks xs e
   simp at e;subst e
   simp only[VRel]at hk
   obtain⟨arr,rfl,hl,_⟩:=hk
   have hlen:ck.length≤arr.size:=by
    have h1:=VList.length _ _ hl
    have: ∀(ks:List CK) (xs:List T),isCells ks xs=true→ks.length=xs.length:=by
     intro ks
     induction ks with
     |nil=>intro xs h;cases xs <;> simp[isCells]at h ⊢
     |cons k ks ih=>intro xs h;cases xs <;> simp[isCells]at h ⊢; exact ih _ h.2
    rw[this _ _ hik,h1];simp
   have:=checkKey_fields (P:=P) (w:=w) n em arr fs.toList 0 ck u4 (by omega)
   rw[Instr.checkKey]
   simp only[Sem.run_bind,run_underlying u1,Result.andThen_ok]
   rw[←Array.forIn_toList,this]
   rfl
  ·cases hik
end Go.Ev
