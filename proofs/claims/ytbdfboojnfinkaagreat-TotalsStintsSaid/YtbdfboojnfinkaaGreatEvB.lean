/- A tree evaluator over the model, proved against it (part B): where it answers, the call returns that answer. Conditions: none beyond its theorems' own. -/
import Derived.Test.YtbdfboojnfinkaaGreatEvA
import Derived.Laws.Cells
import Derived.Laws.CopyRow
import Derived.Laws.AppendOwn
import Derived.Laws.Entries
import Derived.Laws.StructEq
import Derived.Laws.Cover3
import Derived.ChangeKeysEq
set_option linter.unusedSimpArgs false
set_option linter.unusedVariables false
namespace Go.Ev
open Go
theorem vX{w:World}{M:MSet}{v:Value}{t:T}(h:u7 v=some t):PRel w M t v∧single t=true:=by
 unfold u7 at h
 grind [PRel,single,PList]
theorem um{w:World}{M:MSet}: ∀{D:List Value} {ts:List T},oD D=some ts→PList w M ts D∧ts.all single=true
 | [],ts,h=>by grind [oD,PList]
 |v::D,ts,h=>by
  simp only[oD]at h
  split at h
  ·rename_i t B0 E F
   simp at h;subst h
   have a:=vX (w:=w) (M:=M) E
   have b:=um (w:=w) (M:=M) F
   simp only[PList,List.all_cons,Bool.and_eq_true]
   grind
  ·simp at h
theorem qa{w:World}{M:MSet}{v:Value}{t:T}(h:BW v=some t):PRel w M t v:=by
 unfold BW at h
 grind [Option.map_eq_some_iff,PRel,um,vX]
def pC(β:iJ)(G:Sp→Nat→Nat)(w:World)(M:MSet)(ρ:iD→T)(e:Operand→Value):Prop:= ∀x y,lJ x=some y→il β G w M (ρ y) (e x)
theorem SD{st:St}{a:Act}{w:World}{β:iJ}{M:MSet}{n:Nat}(h:nV st a w β M n):pC β st.gens w M st.rho a.eval:=by
 intro x y G8
 cases x with
 |tmp t=>simp[lJ]at G8;subst G8;exact h.slot t
 |const v=>
  simp only[lJ,Option.map_eq_some_iff]at G8
  obtain⟨t,D,rfl⟩:=G8
  exact PRel.toV _ _ _ _ (qa D)
 |global g=>simp[lJ]at G8
 |func f=>grind [lJ,St.rho,Act.eval,il,iq]
def ln(P:Program)(B:lL)(st:St)(a:Act)(w:World)(β:iJ)(M:MSet)(o:Oper)(v:T)(ups:List Up):Prop:=
 ∃D cv w' E M',(execOp a.eval o).run P w= .ok D w'∧(D= .value cv∨(D= .skip∧cv=undef))∧iU B (st.ups ups) w' E M'∧Tr st w β M (st.ups ups) w' E M'∧w.heap.size≤w'.heap.size∧il E (st.ups ups).gens w' M' v cv
section
variable{P:Program}{B:lL}{st:St}{a:Act}{w:World}{β:iJ}{M:MSet}{o:Oper}{v:T}{ups:List Up}
theorem iL(h:iU B st w β M){cv:Value}(D:(execOp a.eval o).run P w= .ok (.value cv) w)(E:il β st.gens w M v cv):ln P B st a w β M o v []:=
 ⟨_,cv,w,β,M,D,.inl rfl,h,Tr.refl _ _ _ _,Nat.le_refl _,E⟩
variable(kP:pC β st.gens w M st.rho a.eval)(h:iU B st w β M)
include kP h
theorem ab5{x:Operand}{y:iD}(ho:o.op= .move x∨o.op= .assign x)(D:lJ x=some y):ln P B st a w β M o (st.rho y) []:=
 iL h (cv:=a.eval x) (by rcases ho with ho|ho <;> simp[execOp,ho]) (kP x y D)
theorem Xl{c x y:Operand}{E F H:iD}(J:o.op= .pick c x y)(K:lJ c=some E)(N:lJ x=some F)(O:lJ y=some H){I:Bool}(U:st.rho E= .b I):
  ln P B st a w β M o (st.rho (if I then F else H)) []:=by
 have D:=kP c E K
 rw[U]at D;simp only[il]at D
 cases I
 ·exact iL h (cv:=a.eval y) (by simp[execOp,J,D,asBool]) (kP y H O)
 ·exact iL h (cv:=a.eval x) (by simp[execOp,J,D,asBool]) (kP x F N)
theorem aeb{d I:Nat}{x:Operand}{y:iD}(F:o.op= .nilCheck x)(J:lJ x=some y){v:T}(E:(jk d st.rho (.nck y)).run st.get I=some (.val v ups)):ln P B st a w β M o v ups:=by
 have D:=kP x y J
 simp only[jk]at E
 split at E <;> simp[Q.run]at E <;> obtain⟨rfl,rfl⟩:=E <;> rename_i e
 ·rw[e]at D
  refine iL h (cv:=a.eval x) ?_ D
  simp only[il,PRel]at D
  obtain⟨blk,off,H,_⟩:=D
  simp[execOp,F,H]
 ·rw[e]at D
  refine iL h (cv:=a.eval x) ?_ D
  simp only[il]at D
  simp[execOp,F,D.2]
 ·rw[e]at D
  refine iL h (cv:=a.eval x) ?_ D
  simp only[il]at D
  obtain⟨K,N,H,_⟩:=D
  simp[execOp,F,H]
end
end Go.Ev
namespace Go.Ev
open Go
theorem Ml(k:IntKind)(n:Int):wr k n=k.wrap n:=by
 unfold wr
 split
 ·rename_i h
  cases k <;> simp only[lo,hi]at h <;> simp[IntKind.wrap,IntKind.bits,IntKind.signed] <;> omega
 ·rfl
theorem kq(x:ByteArray):bytesN x=x.toList.map UInt8.toNat:=by rw[ByteArray.toList_eq];rfl
theorem mG: ∀(a b:List UInt8),(a.map UInt8.toNat==b.map UInt8.toNat)=(a==b)
 | [],[]=>rfl
 | [],_::_=>rfl
 |_::_,[]=>rfl
 |x::xs,y::D=>by
  simp only[List.map_cons,List.cons_beq_cons,mG xs D]
  congr 1
  rw[Bool.eq_iff_iff];simp[UInt8.toNat_inj]
theorem H8: ∀(a b:List UInt8),lessN (a.map UInt8.toNat) (b.map UInt8.toNat)=Op.bytesLess a b
 | [],[]=>rfl
 | [],_::_=>rfl
 |_::_,[]=>rfl
 |x::xs,y::D=>by
  simp only[List.map_cons,lessN,Op.bytesLess,H8 xs D]
  have E:decide (x.toNat<y.toNat)=decide (x<y):=by rw[Bool.eq_iff_iff];simp[UInt8.lt_iff_toNat_lt]
  have F:(x.toNat==y.toNat)=(x==y):=by rw[Bool.eq_iff_iff];simp[UInt8.toNat_inj]
  rw[E,F]
theorem ml(x:ByteArray):(bytesN x).length=x.size:=by
 unfold bytesN;rw[List.length_map,Array.length_toList];rfl
theorem Dw(x y:ByteArray):bytesN (x++y)=bytesN x++bytesN y:=by simp[bytesN,ByteArray.data_append]
section
variable{P:Program}{B:lL}{st:St}{a:Act}{w:World}{β:iJ}{M:MSet}{o:Oper}{v:T}{ups:List Up}
theorem il.int{k:IntKind}{n:Int}{cv:Value}{G:Sp→Nat→Nat}(h:il β G w M (.i k n) cv):cv= .int k n:=by grind [il]
theorem il.str{l:List Nat}{cv:Value}{G:Sp→Nat→Nat}(h:il β G w M (.s l) cv): ∃D,cv= .string D∧bytesN D=l:=by grind [il]
theorem il.bool{x:Bool}{cv:Value}{G:Sp→Nat→Nat}(h:il β G w M (.b x) cv):cv= .bool x:=by grind [il]
theorem Xm{op:BinOp}{k:IntKind}{x y:Int}{t:TypeId}{r:T}(h:qJ op k x y=some r)(hs:op≠ .shl∧op≠ .shr): ∃cv,(binOp op t (.int k x) (.int k y)).run P w= .ok cv w∧ ∀G,il β G w M r cv:=by
 cases op <;> simp only[qJ,Option.some.injEq]at h <;> try (subst h)
 all_goals first
  |exact absurd rfl hs.1
  |exact absurd rfl hs.2
  |skip
 case quo=>
  split at h
  ·cases h
  ·rename_i D
   simp at h;subst h
   exact⟨_,by simp[binOp,Op.intDiv,D];rfl,fun G=>by simp[il,Ml]⟩
 case rem=>
  split at h
  ·cases h
  ·rename_i D
   simp at h;subst h
   exact⟨_,by simp[binOp,Op.intDiv,D];rfl,fun G=>by simp[il]⟩
 all_goals first
  |exact⟨_,by simp[binOp,Op.intArith,Op.intBits,Op.intCmp];rfl,fun G=>by simp[il,Ml]⟩
  |cases h
theorem Eh{op:BinOp}{k k':IntKind}{x y:Int}{t:TypeId}{r:T}(h:BS op k x y=some r): ∃cv,(binOp op t (.int k x) (.int k' y)).run P w= .ok cv w∧ ∀G,il β G w M r cv:=by
 unfold BS at h
 split at h
 ·cases h
 ·rename_i D
  cases op <;> simp at h <;> subst h
  ·exact⟨_,by simp[binOp,Op.shift,D];rfl,fun G=>by simp[il]⟩
  ·exact⟨_,by simp[binOp,Op.shift,D];rfl,fun G=>by simp[il]⟩
theorem Xn{op:BinOp}{x y:ByteArray}{t:TypeId}{r:T}(h:Kr op (bytesN x) (bytesN y)=some r): ∃cv,(binOp op t (.string x) (.string y)).run P w= .ok cv w∧ ∀G,il β G w M r cv:=by
 have D:(bytesN x==bytesN y)=(x.toList==y.toList):=by rw[kq,kq,mG]
 have E:lessN (bytesN x) (bytesN y)=Op.bytesLess x.toList y.toList:=by rw[kq,kq,H8]
 have F:(bytesN x != bytesN y)= !(x.toList==y.toList):=by rw[bne,D]
 cases op <;> simp only[Kr]at h <;> try (cases h;done)
 case add=>
  split at h
  ·rename_i H
   simp at h;subst h
   rw[ml,ml]at H
   have: ¬(((x.size+y.size:Nat):Int)>IntKind.i64.max):=by simp[IntKind.max,IntKind.signed,IntKind.bits];omega
   exact⟨.string (x++y),by simp only[binOp,Op.stringOp,this,if_false];rfl,fun G=>by simp only[il];exact⟨_,rfl,Dw x y⟩⟩
  ·cases h
 all_goals
  simp only[Option.some.injEq]at h
  subst h
  refine⟨_,by simp only[binOp,Op.stringOp];rfl,fun G=> ?_⟩
  simp only[il,D,E,F]
variable(kP:pC β st.gens w M st.rho a.eval)(h:iU B st w β M)
include kP h
theorem aec{op:BinOp}{t X:TypeId}{x y:Operand}{J K:iD}(N:o.op= .binOp op t x y X)(Y:lJ x=some J)(Z:lJ y=some K)(D:Ev.bin op (st.rho J) (st.rho K)=some v):ln P B st a w β M o v []:=by
 have O:=kP x J Y
 have U:=kP y K Z
 generalize st.rho J=tx at*
 generalize st.rho K=ty at*
 have Ks: ∀k k' m n,(eqGuard op t x y (.int k m) (.int k' n)).run P w= .ok () w:=by intro k k' m n;cases op <;> simp[eqGuard]
 have V: ∀m n,(eqGuard op t x y (.string m) (.string n)).run P w= .ok () w:=by intro m n;cases op <;> simp[eqGuard]
 unfold Ev.bin at D
 split at D
 ·rename_i k1 a1 k2 b1
  have E:=O.int;have F:=U.int
  obtain⟨cv,H,I⟩:=Eh (P:=P) (w:=w) (β:=β) (M:=M) (t:=t) (k':=k2) D
  exact iL h (cv:=cv) (by simp[execOp,N,E,F,Ks,H]) (I _)
 ·rename_i k1 a1 k2 b1
  have E:=O.int;have F:=U.int
  obtain⟨cv,H,I⟩:=Eh (P:=P) (w:=w) (β:=β) (M:=M) (t:=t) (k':=k2) D
  exact iL h (cv:=cv) (by simp[execOp,N,E,F,Ks,H]) (I _)
 ·rename_i tG W
  split at D
  ·rename_i hk
   subst hk
   have E:=O.int;have F:=U.int
   obtain⟨cv,H,I⟩:=Xm (P:=P) (w:=w) (β:=β) (M:=M) (t:=t) D ⟨fun e=>tG e,fun e=>W e⟩
   exact iL h (cv:=cv) (by simp[execOp,N,E,F,Ks,H]) (I _)
  ·cases D
 ·obtain⟨bx,E,rfl⟩:=O.str
  obtain⟨bY,F,rfl⟩:=U.str
  obtain⟨cv,H,I⟩:=Xn (P:=P) (w:=w) (β:=β) (M:=M) (t:=t) D
  exact iL h (cv:=cv) (by simp[execOp,N,E,F,V,H]) (I _)
 ·cases D
theorem amI{op:UnOp}{t:TypeId}{x:Operand}{E:iD}(F:o.op= .unOp op t x)(I:lJ x=some E)(D:Ev.un op (st.rho E)=some v):ln P B st a w β M o v []:=by
 have H:=kP x E I
 generalize st.rho E=tx at*
 unfold Ev.un at D
 split at D
 ·simp at D;subst D
  exact iL h (cv:=_) (by simp[execOp,F,H.int,Op.unary,Op.intArith];rfl) (by simp[il,Ml])
 ·simp at D;subst D
  exact iL h (cv:=_) (by simp[execOp,F,H.bool,Op.unary];rfl) (by simp only[il])
 ·rename_i k n
  simp only[qJ,Option.some.injEq]at D;subst D
  exact iL h (cv:= .int k (k.wrap (BitVec.ofInt k.bits (if k.signed then-1 else k.max) ^^^ BitVec.ofInt k.bits n).toNat)) (by simp only[execOp,F,H.int,Op.unary,Op.intBits];rfl) (by simp only[il])
 ·cases D
theorem aee{s t:TypeId}{k:IntKind}{x:Operand}{D:iD}(F:o.op= .convert s t x)(H:lJ x=some D)(hs: ∃k',P.underlying s=some (.int k'))(I:P.underlying t=some (.int k)){k':IntKind}{n:Int}(J:st.rho D= .i k' n):
  ln P B st a w β M o (.i k (wr k n)) []:=by
 have E:=kP x D H
 rw[J]at E
 obtain⟨ks,hs⟩:=hs
 exact iL h (cv:= .int k (k.wrap n)) (by simp[execOp,F,E.int,convert,run_underlying hs,run_underlying I,Conv.intToInt]) (by simp only[il,Ml])
omit h in
theorem vb: ∀{xs:List Operand} {D:List iD},zd xs=some D→iq β st.gens w M (D.map st.rho) (xs.map a.eval)
 | [],D,h=>by grind [zd,iq]
 |x::xs,D,h=>by
  simp only[zd]at h
  split at h
  ·rename_i y E F H
   simp at h;subst h
   simp only[List.map_cons,iq]
   exact⟨_,_,rfl,kP x y F,vb H⟩
  ·cases h
theorem Xo{f:FuncId}{first D:Array Operand}{E cs:List iD}(F:o.op= .makeFunc (.func f) first D)(H:zd first.toList=some E)(I:zd D.toList=some cs):
  ln P B st a w β M o (.fn f (E.map st.rho) (cs.map st.rho)) []:=
 iL h (cv:= .func (.func f) (first.map a.eval) (D.map a.eval)) (by simp[execOp,F,Instr.makeFunc]) (by
  simp only[il]
  exact⟨_,_,rfl,by simpa using vb kP H,by simpa using vb kP I⟩)
theorem aef{x:Operand}{D:iD}{j:Nat}(J:o.op= .extract x j)(K:lJ x=some D){I:List T}(N:st.rho D= .tup I)(O:I[j]? =some v):ln P B st a w β M o v []:=by
 have E:=kP x D K
 rw[N]at E
 simp only[il]at E
 obtain⟨F,e,U⟩:=E
 obtain⟨cv,V,W⟩:=U.get O
 have H:F[j]? =some cv:=by simpa using V
 exact iL h (cv:=cv) (by simp[execOp,J,e,Instr.extract,H]) W
end
end Go.Ev
namespace Go.Ev
open Go
theorem mU{P:Program}{t:TypeId}{n:Nat}(h:lA P t=some n)(w:World):(sizeOf t).run P w= .ok n w:=by
 unfold lA at h
 cases hi:P.info? t with
 |none=>simp[hi]at h
 |some i=>simp[hi]at h;simp[sizeOf,typeInfo,hi,h]
theorem qb{P:Program}{t:TypeId}{E:Bool}(h:tS P t=some E)(w:World):(isAgg t).run P w= .ok E w:=by
 unfold tS at h
 cases D:P.underlying t with
 |none=>simp[D]at h
 |some d=>
  simp only[D,Option.map_some,Option.some.injEq]at h
  unfold isAgg
  simp only[Sem.run_bind,run_underlying D,Result.andThen_ok]
  cases d <;> simp at h <;> subst h <;> rfl
theorem H9{P:Program}{β:iJ}{G:Sp→Nat→Nat}{w:World}{M:MSet}{t:TypeId}{off n:Nat}{E:Bool}{cs:List T}{D:Array Value}{v:T}(H:lA P t=some n)(I:tS P t=some E)
  (F:iq β G w M cs D.toList) (hs:cs.all single=true) (h:Ev.part cs off n E=some v): ∃cv,(Go.part t D off).run P w= .ok cv w∧il β G w M v cv:=by
 unfold Ev.part at h
 unfold Go.part
 simp only[Sem.run_bind,qb I,Result.andThen_ok]
 cases E with
 |true=>
  simp only[if_true]at h ⊢
  split at h
  ·rename_i J
   simp at h;subst h
   refine⟨.agg (D.extract off (off+n)),by simp[mU H], ?_⟩
   simp only[il]
   refine⟨_,rfl, ?_,nw hs _ _⟩
   have:=iq.take n (iq.drop off F)
   grind [Array.toList_extract,List.extract_eq_take_drop]
  ·cases h
 |false=>
  simp only[Bool.false_eq_true,if_false]at h ⊢
  obtain⟨cv,K,N⟩:=F.get h
  simp_all
theorem kZ(b o n:Nat):(⟨b,o,none⟩:Addr).add n=⟨b,o+n,none⟩:=by grind [Addr.add]
theorem PCells.drop{w:World}{M:MSet}{blk:Nat}: ∀{off:Nat} {ts:List T} (n:Nat),PCells w M blk off ts→n≤ts.length→PCells w M blk (off+n) (ts.drop n)
 |off,ts,0,h,_=>by simpa using h
 |off,[],n+1,h,D=>by simp at D
 |off,c::cs,n+1,h,D=>by
  simp only[PCells]at h
  have:=PCells.drop n h.2 (by simpa using D)
  grind
theorem PCells.take{w:World}{M:MSet}{blk:Nat}: ∀{off:Nat} {ts:List T} (n:Nat),PCells w M blk off ts→PCells w M blk off (ts.take n)
 |off,ts,0,h=>by simp[PCells]
 |off,[],n+1,h=>by simp[PCells]
 |off,c::cs,n+1,h=>by
  simp only[PCells]at h
  simp only[List.take_succ_cons,PCells]
  exact⟨h.1,PCells.take n h.2⟩
theorem PCells.load{P:Program}{w:World}{M:MSet}{blk:Nat}: ∀{off:Nat} {ts:List T},PCells w M blk off ts→ ∃D:List Value,D.length=ts.length∧(∀j v,D[j]? =some v→w.cell? ⟨blk,off+j,none⟩=some v)∧PList w M ts D∧ts.all single=true
 |off,[],h=>⟨[],rfl,by simp,by simp[PList],rfl⟩
 |off,c::cs,h=>by
  simp only[PCells]at h
  obtain⟨⟨v,J,_,K,E⟩,F⟩:=h
  obtain⟨D,H,N,O,I⟩:=PCells.load (P:=P) F
  refine⟨v::D,by simp[H],fun j u U=> ?_, ?_,by simp[E,I]⟩
  ·grind
  ·grind [PList]
theorem Ia{P:Program}{β:iJ}{G:Sp→Nat→Nat}{w:World}{M:MSet}{t:TypeId}{n:Nat}{E:Bool}{blk off o:Nat}{cs:List T}{D:List Value}{v:T}(J:lA P t=some n)(K:tS P t=some E)
  (U: ∀j u,D[j]? =some u→w.cell? ⟨blk,off+j,none⟩=some u) (F:iq β G w M cs D) (hs:cs.all single=true) (h:Ev.part cs o n E=some v):
  ∃cv,(loadVar t ⟨blk,off+o,none⟩).run P w= .ok cv w∧il β G w M v cv:=by
 unfold Ev.part at h
 unfold loadVar
 simp only[Sem.run_bind,qb K,Result.andThen_ok]
 cases E with
 |true=>
  simp only[if_true]at h ⊢
  split at h
  ·rename_i N
   simp at h;subst h
   have I:=iq.length _ _ F
   have O:((D.drop o).take n).length=n:=by simp;omega
   have:=run_loadCells_list (P:=P) w ⟨blk,off+o,none⟩ ((D.drop o).take n) (fun j u H=>by
    rw[kZ]
    rw[List.getElem?_take]at H
    split at H
    ·grind
    ·cases H)
   rw[O]at this
   refine⟨.agg ((D.drop o).take n).toArray,by simp[mU J,this], ?_⟩
   simp only[il]
   exact⟨_,rfl,by simpa using iq.take n (iq.drop o F),nw hs _ _⟩
  ·cases h
 |false=>
  simp only[Bool.false_eq_true,if_false]at h ⊢
  obtain⟨cv,V,W⟩:=F.get h
  grind [Go.load,Sem.run]
section
variable{P:Program}{B:lL}{st:St}{a:Act}{w:World}{β:iJ}{M:MSet}{o:Oper}{v:T}{ups:List Up}
variable(kP:pC β st.gens w M st.rho a.eval)(h:iU B st w β M)
include h
theorem Ib{t:TypeId}{n nx:Nat}{I:Bool}{x:T}{cx:Value}(N:lA P t=some n)(O:tS P t=some I)(J:il β st.gens w M x cx)(D:(Fu x n I).run st.get nx=some v):
  ∃U cv,cx= .pointer (some U)∧(loadVar t U).run P w= .ok cv w∧il β st.gens w M v cv:=by
 unfold Fu at D
 split at D
 ·rename_i cs
  simp only[il,PRel]at J
  obtain⟨blk,off,rfl,hc⟩:=J
  obtain⟨vs,_,e2,e3,e4⟩:=PCells.load (P:=P) hc
  cases E:Ev.part cs 0 n I with
  |none=>simp[E,Q.of,Q.run]at D
  |some v'=>
   simp[E,Q.of,Q.run]at D;subst D
   obtain⟨cv,V,W⟩:=Ia (P:=P) (β:=β) (G:=st.gens) (M:=M) N O e2 (PList.toV _ _ _ _ e3) e4 E
   grind
 ·rename_i sp k g off
  simp only[Q.run]at D
  split at D
  ·rename_i X
   have Y:=h.obj sp k
   generalize he:st.get sp k=e at*
   obtain⟨K,ob⟩:=e
   dsimp only at X;subst X
   cases ob with
   |none=>simp[Q.run]at D
   |map _ _ _=>simp[Q.run]at D
   |cells cs wm bx=>
    dsimp only at D
    cases E:Ev.part cs off n I with
    |none=>simp[E,Q.of,Q.run]at D
    |some v'=>
     simp[E,Q.of,Q.run]at D;subst D
     unfold kM at Y
     obtain⟨c,el,fz,Z,h2,h3,h4,h5,h6,h7⟩:=Y
     dsimp only at Z h2 h3 h5
     have OI:iq β st.gens w M cs ((c.toList.drop (β sp k K).off).take cs.length):=by
      exact h5.toV
     simp only[il]at J
     obtain⟨_,rfl⟩:=J
     have F: ∀j u,((c.toList.drop (β sp k K).off).take cs.length)[j]? =some u→w.cell? ⟨(β sp k K).blk,(β sp k K).off+j,none⟩=some u:=by
      intro j u H
      rw[List.getElem?_take]at H
      split at H
      ·rw[List.getElem?_drop]at H
       unfold World.cell?;rw[Z];simpa using H
      ·cases H
     obtain⟨cv,V,W⟩:=Ia (P:=P) N O F OI h7.1 E
     exact⟨_,cv,rfl,V,W⟩
  ·simp[Q.run]at D
 ·simp[Q.run]at D
include kP
theorem amJ{d I:Nat}{t:TypeId}{x:Operand}{D:iD}{n:Nat}{F:Bool}(J:o.op= .load t x)(K:lJ x=some D)(N:lA P t=some n)(O:tS P t=some F)
  (E:(jk d st.rho (.ld D n F)).run st.get I=some (.val v ups)):ln P B st a w β M o v ups:=by
 simp only[jk,Q.run_bind]at E
 cases H:(Fu (st.rho D) n F).run st.get I with
 |none=>simp[H]at E
 |some W=>
  simp[H,Q.run]at E
  obtain⟨rfl,rfl⟩:=E
  obtain⟨X,cv,e,U,V⟩:=Ib (P:=P) h N O (kP x D K) H
  exact iL h (cv:=cv) (by simp[execOp,J,e,Instr.loadAt,Instr.sureAddr,U]) V
theorem amK{d N:Nat}{s:TypeId}{x:Operand}{F:iD}{f n:Nat}{K:Array Field}{E:Field}(O:o.op= .fieldAddr s x f)(U:lJ x=some F)(hs:P.underlying s=some (.struct K))(V:K[f]? =some E)(W:lA P E.type=some n)(X:n≠0)
  (D:(jk d st.rho (.fa F E.offset)).run st.get N=some (.val v ups)):ln P B st a w β M o v ups:=by
 have H:=kP x F U
 have I: ∀blk off,a.eval x= .pointer (some ⟨blk,off,none⟩)→(execOp a.eval o).run P w= .ok (.value (.pointer (some ⟨blk,off+E.offset,none⟩))) w:=by
  intro blk off e
  simp[execOp,O,e,Instr.fieldAt,run_underlying hs,V,Instr.sureAddr,fieldPlace,mU W,X,kZ]
 simp only[jk]at D
 split at D
 ·rename_i cs e
  split at D
  ·rename_i J
   simp[Q.run]at D;obtain⟨rfl,rfl⟩:=D
   rw[e]at H
   simp only[il,PRel]at H
   obtain⟨blk,off,Y,Z⟩:=H
   refine iL h (I blk off Y) ?_
   simp only[il,PRel]
   exact⟨blk,_,rfl,PCells.drop _ Z J⟩
  ·simp[Q.run]at D
 ·grind [Q.run,il,Nat.add_assoc,iL]
 ·simp[Q.run]at D
theorem aeh{d N:Nat}{s:TypeId}{x:Operand}{F:iD}{f n:Nat}{H:Bool}{K:Array Field}{E:Field}(O:o.op= .field s x f)(U:lJ x=some F)(hs:P.underlying s=some (.struct K))(V:K[f]? =some E)(W:lA P E.type=some n)(X:tS P E.type=some H)
  (D:(jk d st.rho (.fld F E.offset n H)).run st.get N=some (.val v ups)):ln P B st a w β M o v ups:=by
 have I:=kP x F U
 simp only[jk]at D
 split at D
 ·rename_i cs e
  rw[e]at I
  simp only[il]at I
  obtain⟨Y,Z,hl,tG⟩:=I
  cases J:Ev.part cs E.offset n H with
  |none=>simp[J,Ev.val,Q.run]at D
  |some v'=>
   simp[J,Ev.val,Q.run]at D;obtain⟨rfl,rfl⟩:=D
   obtain⟨cv,r1,r2⟩:=H9 (P:=P) W X hl tG J
   exact iL h (cv:=cv) (by simp[execOp,O,Z,Instr.field,run_underlying hs,V,asAgg,r1]) r2
 ·simp[Q.run]at D
theorem aei{d U:Nat}{t e:TypeId}{x j:Operand}{F H:iD}{len n:Nat}{I:Bool}(V:o.op= .index t x j)(W:lJ x=some F)(X:lJ j=some H)(Y:P.underlying t=some (.array len e))(N:lA P e=some n)(Z:tS P e=some I)
  (D:(jk d st.rho (.ixA F H len n I)).run st.get U=some (.val v ups)):ln P B st a w β M o v ups:=by
 have J:=kP x F W
 have O:=kP j H X
 simp only[jk]at D
 split at D
 ·rename_i jn cs E e2
  rw[e2]at J
  simp only[il]at J
  obtain⟨arr,e3,hl,tG⟩:=J
  split at D
  ·rename_i hlt
   cases K:Ev.part cs (jn*n) n I with
   |none=>simp[K,Ev.val,Q.run]at D
   |some v'=>
    simp[K,Ev.val,Q.run]at D;obtain⟨rfl,rfl⟩:=D
    unfold asNat at E
    split at E
    ·rename_i k m em
     split at E
     ·rename_i hm
      simp at E;subst E
      rw[em]at O
      have ej:=O.int
      obtain⟨cv,r1,r2⟩:=H9 (P:=P) N Z hl tG K
      have:0≤m∧m<(len:Int):=by omega
      exact iL h (cv:=cv) (by simp[execOp,V,e3,ej,Instr.index,run_underlying Y,asIntOf,this,mU N,r1]) r2
     ·cases E
    ·cases E
  ·simp[Q.run]at D
 ·simp[Q.run]at D
omit h kP in
theorem nN{t:T}{n:Nat}(e:asNat t=some n): ∃k m,t= .i k m∧0≤m∧m.toNat=n:=by
 unfold asNat at e
 grind
theorem aej{d U:Nat}{t:TypeId}{x j:Operand}{F H:iD}(V:o.op= .index t x j)(W:lJ x=some F)(X:lJ j=some H)(Y:P.underlying t=some .string)
  (E:(jk d st.rho (.ixS F H)).run st.get U=some (.val v ups)):ln P B st a w β M o v ups:=by
 have N:=kP x F W
 have O:=kP j H X
 simp only[jk]at E
 split at E
 ·rename_i jn bs Z e2
  rw[e2]at N
  obtain⟨D,e3,rfl⟩:=N.str
  obtain⟨k,m,em,hm,rfl⟩:=nN Z
  rw[em]at O
  have ej:=O.int
  split at E
  ·rename_i c I
   simp[Q.run]at E;obtain⟨rfl,rfl⟩:=E
   unfold bytesN at I
   rw[List.getElem?_map,Option.map_eq_some_iff]at I
   obtain⟨u,hu,rfl⟩:=I
   have Kt:D[m.toNat]? =some u:=by
    have:D.data[m.toNat]? =some u:=by simpa using hu
    have J:=(Array.getElem?_eq_some_iff.1 this).1
    have:D.data[m.toNat]=u:=(Array.getElem?_eq_some_iff.1 this).2
    show(if h:m.toNat<D.size then some D[m.toNat]else none)=some u
    have K:m.toNat<D.size:=J
    rw[dif_pos K];exact congrArg some this
   exact iL h (cv:= .int .u8 u.toNat) (by simp[execOp,V,e3,ej,Instr.index,run_underlying Y,asIntOf,hm,Kt]) (by simp only[il])
  ·simp[Q.run]at E
 ·simp[Q.run]at E
theorem amL{d V:Nat}{t e:TypeId}{x j:Operand}{H I:iD}{n:Nat}(W:o.op= .indexAddr t x j)(X:lJ x=some H)(Y:lJ j=some I)(Z:P.underlying t=some (.slice e))(hn:lA P e=some n)
  (D:(jk d st.rho (.ia H I n)).run st.get V=some (.val v ups)):ln P B st a w β M o v ups:=by
 have J:=kP x H X
 have U:=kP j I Y
 have K: ∀(blk off len E:Nat) k (m:Int),a.eval x= .slice (some ⟨blk,off,none⟩) len E→a.eval j= .int k m→0≤m→m.toNat<len→(execOp a.eval o).run P w= .ok (.value (.pointer (some ⟨blk,off+m.toNat*n,none⟩))) w:=by
  intro blk off len E k m N O h1 h2
  have:0≤m∧m<(len:Int):=by omega
  simp[execOp,W,N,O,Instr.indexAt,run_underlying Z,asIntOf,this,mU hn,kZ]
 simp only[jk]at D
 split at D
 ·rename_i jn cs len ex N O
  split at D
  ·rename_i F
   simp[Q.run]at D;obtain⟨rfl,rfl⟩:=D
   simp at F
   obtain⟨k,m,em,hm,rfl⟩:=nN N
   rw[O]at J;rw[em]at U
   simp only[il,PRel]at J
   obtain⟨blk,off,E,sp,e3,h1,h2,h5,h3⟩:=J
   obtain rfl:sp=none:=h5.resolve_right (by have:=F.1;omega)
   refine iL h (K _ _ _ _ _ _ e3 U.int hm F.1) ?_
   simp only[il,PRel]
   exact⟨_,_,rfl,PCells.drop _ h3 (by have:=F.2;rw[Nat.add_mul]at this;omega)⟩
  ·simp[Q.run]at D
 ·grind [Q.run,il,Nat.add_assoc,nN,iL]
 ·simp[Q.run]at D
theorem aek{d U:Nat}{t e:TypeId}{x j:Operand}{E F:iD}{len n:Nat}(V:o.op= .indexAddr t x j)(W:lJ x=some E)(X:lJ j=some F)(Y:P.underlying t=some (.array len e))(Z:lA P e=some n)
  (D:(jk d st.rho (.iaA E F len n)).run st.get U=some (.val v ups)):ln P B st a w β M o v ups:=by
 have H:=kP x E W
 have O:=kP j F X
 have I: ∀(blk off:Nat) k (m:Int),a.eval x= .pointer (some ⟨blk,off,none⟩)→a.eval j= .int k m→0≤m→m.toNat<len→(execOp a.eval o).run P w= .ok (.value (.pointer (some ⟨blk,off+m.toNat*n,none⟩))) w:=by
  intro blk off k m J K h1 h2
  have:0≤m∧m<(len:Int):=by omega
  simp[execOp,V,J,K,Instr.indexAt,run_underlying Y,asIntOf,Instr.sureAddr,this,mU Z,kZ]
 simp only[jk]at D
 split at D
 ·rename_i jn cs J K
  split at D
  ·rename_i N
   simp[Q.run]at D;obtain⟨rfl,rfl⟩:=D
   simp at N
   obtain⟨k,m,em,hm,rfl⟩:=nN J
   rw[K]at H;rw[em]at O
   simp only[il,PRel]at H
   obtain⟨blk,off,e3,h3⟩:=H
   refine iL h (I _ _ _ _ e3 O.int hm N.1) ?_
   simp only[il,PRel]
   exact⟨_,_,rfl,PCells.drop _ h3 (by have:=N.2;rw[Nat.add_mul]at this;omega)⟩
  ·simp[Q.run]at D
 ·grind [Q.run,il,Nat.add_assoc,nN,iL]
 ·simp[Q.run]at D
end
end Go.Ev
namespace Go.Ev
open Go
theorem B1(s:ByteArray)(l h:Nat):bytesN (s.extract l h)=((bytesN s).drop l).take (h-l):=by
 unfold bytesN
 simp_all
theorem k5{P:Program}{w:World}{k:IntKind}{m:Int}{y:Nat}{code:BoundsCode}(D:0≤m)(E:m.toNat≤y):(Instr.sliceBound (.int k m) y code).run P w= .ok m.toNat w:=by
 have:0≤m∧m≤(y:Int):=by omega
 simp[Instr.sliceBound,asIntOf,this]
section
variable{P:Program}{B:lL}{st:St}{a:Act}{w:World}{β:iJ}{M:MSet}{o:Oper}{v:T}{ups:List Up}
variable(kP:pC β st.gens w M st.rho a.eval)(h:iU B st w β M)
include kP in
theorem vd{x:Option Operand}{D:Option iD}{Xh n:Nat}(E:tQ x=some D)(e:ky st.rho Xh D=some n):
  (x=none∧D=none∧n=Xh)∨ ∃y k m,x=some y∧a.eval y= .int k m∧0≤m∧m.toNat=n:=by
 cases x with
 |none=>grind [tQ,ky]
 |some y=>
  simp only[tQ,Option.map_eq_some_iff]at E
  obtain⟨F,H,rfl⟩:=E
  simp only[ky]at e
  obtain⟨k,m,I,J,K⟩:=nN e
  have:=kP y F H
  rw[I]at this
  exact .inr ⟨y,k,m,rfl,this.int,J,K⟩
include kP in
theorem tH{lo hi:Option Operand}{Xp Dx:Option iD}{isS:Bool}{len D l F:Nat}(J:tQ lo=some Xp)(K:tQ hi=some Dx)(N:ky st.rho 0 Xp=some l)(O:ky st.rho len Dx=some F)
  (H:l≤F) (I:F≤len) (E:len≤D):(Instr.sliceBounds isS len D (lo.map a.eval) (hi.map a.eval) none).run P w= .ok (l,F,D) w:=by
 unfold Instr.sliceBounds
 rcases vd kP J N with⟨rfl,rfl,rfl⟩|⟨y,k,m,rfl,ey,hm,rfl⟩ <;> rcases vd kP K O with⟨rfl,rfl,rfl⟩|⟨y2,k2,m2,rfl,ey2,G6,rfl⟩
 ·simp
 ·simp[ey2,k5 G6 (Nat.le_trans I E)]
 ·simp[ey,k5 hm H]
 ·simp[ey,ey2,k5 G6 (Nat.le_trans I E),k5 hm H]
include kP h
theorem ael{d K:Nat}{t:TypeId}{x:Operand}{F:iD}{lo hi:Option Operand}{Xp Dx:Option iD}(N:o.op= .slice t x lo hi none)(O:lJ x=some F)(U:tQ lo=some Xp)(V:tQ hi=some Dx)(W:P.underlying t=some .string)
  (D:(jk d st.rho (.slS F Xp Dx)).run st.get K=some (.val v ups)):ln P B st a w β M o v ups:=by
 have H:=kP x F O
 simp only[jk]at D
 split at D
 ·rename_i bs e
  rw[e]at H
  obtain⟨s,X,rfl⟩:=H.str
  split at D
  ·rename_i l I Y J
   split at D
   ·rename_i E
    simp at E
    simp[Q.run]at D;obtain⟨rfl,rfl⟩:=D
    rw[ml]at J E
    have Z:=tH (P:=P) (w:=w) (isS:=false) kP U V Y J E.1 E.2 (Nat.le_refl _)
    refine iL h (cv:= .string (s.extract l I)) ?_ (by simp only[il];exact⟨_,rfl,B1 s l I⟩)
    simp[execOp,N,X,Instr.sliceAt,run_underlying W,Instr.slice,Z]
   ·simp[Q.run]at D
  ·simp[Q.run]at D
 ·simp[Q.run]at D
theorem aem{d nx:Nat}{t e:TypeId}{n:Nat}{x:Operand}{W:iD}{lo hi mx:Option Operand}{Xp Dx X:Option iD}(ho:o.op= .slice t x lo hi mx)(hx:lJ x=some W)(h1:tQ lo=some Xp)(h2:tQ hi=some Dx)(h3:tQ mx=some X)
  (ht:P.underlying t=some (.slice e)) (hn:lA P e=some n) (h0:n≠0) (Wy:mx.isSome=true→hi.isSome=true)
  (F:(jk d st.rho (.slV n W Xp Dx X)).run st.get nx=some (.val v ups)):ln P B st a w β M o v ups:=by
 have H:=kP x W hx
 simp only[jk]at F
 cases E:uh (st.rho W)with
 |none=>grind [Q.run]
 |some len=>
  simp only[E]at F
  cases Y:ky st.rho 0 Xp with
  |none=>simp[Y,Q.run]at F
  |some l=>
   cases e2:ky st.rho len Dx with
   |none=>grind [Q.run]
   |some O=>
    cases mx with
    |none=>
     simp[tQ]at h3;subst h3
     simp only[Y,e2,Q.run_bind]at F
     have I: ∀(J:Option Addr) D,a.eval x= .slice J len D→l≤O→O≤len→len≤D→
       (execOp a.eval o).run P w= .ok (.value (.slice (if D=l then J else J.map (·.add (l*n))) (O-l) (D-l))) w:=by
      intro J D ex J1 Qu hl3
      have hb:=tH (P:=P) (w:=w) (isS:=true) kP h1 h2 Y e2 J1 Qu hl3
      simp[execOp,ho,ex,Instr.sliceAt,run_underlying ht,Instr.slice,hb,mU hn]
     cases hs:(z7 n (st.rho W) l O).run st.get nx with
     |none=>simp[hs]at F
     |some v'=>
      simp[hs,Q.run]at F;obtain⟨rfl,rfl⟩:=F
      unfold z7 at hs
      split at hs
      ·grind [Q.run,uh,il,iL]
      ·rename_i cs SE ex' ex
       rw[ex]at H E
       simp[uh]at E;subst E
       split at hs
       ·rename_i K
        simp[Q.run]at hs;subst hs
        simp at K
        obtain⟨⟨c1,c2⟩,c3⟩:=K
        simp only[il,PRel]at H
        obtain⟨blk,off,D,sp,N,p1,p2,p4,p3⟩:=H
        refine iL h (I _ _ N c1 c2 p1) ?_
        simp only[il,PRel]
        by_cases B2:D=l
        ·rw[if_pos B2]
         have:O=l:=by omega
         subst this
         refine⟨blk,off,D-O,sp,by simp,by omega,fun U=>by omega,.inr (by omega), ?_⟩
         simp[PCells]
        ·rw[if_neg B2]
         obtain rfl:sp=none:=p4.resolve_right (by omega)
         refine⟨blk,off+l*n,D-l,none,by simp[kZ],by omega,fun U=> ?_,.inl rfl, ?_⟩
         ·simp at U
          have:=p2 U.1
          omega
         ·refine PCells.take _ (PCells.drop _ p3 ?_)
          rw[c3];exact Nat.mul_le_mul_right n (Nat.le_trans c1 c2)
       ·simp[Q.run]at hs
      ·rename_i sp k g off SE sz ex
       rw[ex]at H E
       simp[uh]at E;subst E
       split at hs
       ·rename_i K
        simp[Q.run]at hs;subst hs
        simp at K
        obtain⟨⟨c1,c2⟩,rfl⟩:=K
        simp only[il]at H
        obtain⟨q1,D,N,p1,p2⟩:=H
        refine iL h (I _ _ N c1 c2 p1) ?_
        by_cases Z:l=O
        ·subst Z
         rw[if_pos rfl]
         by_cases hz:sp= .S∧l=0∧off=0
         ·rw[if_pos hz]
          obtain⟨_,rfl,rfl⟩:=hz
          simp only[il]
          refine⟨q1,D, ?_,Nat.zero_le _,p2⟩
          by_cases B2:D=0
          ·rw[if_pos B2];simp
          ·rw[if_neg B2];simp[kZ]
         rw[if_neg hz]
         simp only[il,PRel]
         by_cases B2:D=l
         ·rw[if_pos B2]
          exact⟨(β sp k g).blk,(β sp k g).off+off,D-l,none,by simp,by omega,(fun e=>by cases e),.inl rfl,by simp[PCells]⟩
         ·rw[if_neg B2]
          exact⟨(β sp k g).blk,(β sp k g).off+off+l*sz,D-l,none,by simp[kZ],by omega,(fun e=>by cases e),.inl rfl,by simp[PCells]⟩
        ·rw[if_neg Z,if_neg (by omega)]
         simp only[il]
         refine⟨q1,D-l,by simp[kZ,Nat.add_assoc],by omega, ?_⟩
         have:(D-l)*sz+l*sz=D*sz:=by rw[←Nat.add_mul];congr 1;omega
         omega
       ·simp[Q.run]at hs
      ·simp[Q.run]at hs
    |some m=>
     simp only[tQ,Option.map_eq_some_iff]at h3
     obtain⟨m',hm',rfl⟩:=h3
     have vm:=kP m m' hm'
     have I: ∀(J:Option Addr) D,a.eval x= .slice J len D→ ∀k (z:Int),a.eval m= .int k z→z=0→l=0→O=0→
       (execOp a.eval o).run P w= .ok (.value (.slice J 0 0)) w:=by
      intro J D ex k z em hz hl0 hh0
      subst hz;subst hl0;subst hh0
      have hb:(Instr.sliceBounds true len D (lo.map a.eval) (hi.map a.eval) (some (.int k 0))).run P w= .ok (0,0,0) w:=by
       unfold Instr.sliceBounds
       rcases vd kP h2 e2 with⟨rfl,rfl,hx0⟩|⟨y2,k2,m2,rfl,ey2,G6,OJ⟩
       ·simp at Wy
       ·have b1:=k5 (P:=P) (w:=w) (k:=k) (m:=0) (y:=D) (code:= .slice3Acap) (by omega) (by simp)
        have b2:=k5 (P:=P) (w:=w) (k:=k2) (m:=m2) (y:=0) (code:= .slice3B) G6 (by omega)
        rcases vd kP h1 Y with⟨rfl,rfl,_⟩|⟨y,k1,m1,rfl,ey,hm,hz1⟩
        ·simp_all
        ·have b3:=k5 (P:=P) (w:=w) (k:=k1) (m:=m1) (y:=m2.toNat) (code:= .slice3C) hm (by omega)
         simp_all
      cases J <;> simp[execOp,ho,ex,em,Instr.sliceAt,run_underlying ht,Instr.slice,hb,mU hn]
     simp only[Y,e2]at F
     cases em:asNat (st.rho m')with
     |none=>simp[em,Q.run]at F
     |some z=>
      obtain⟨km,zm,ez,hz1,OJ⟩:=nN em
      rw[ez]at vm
      have vm':=vm.int
      split at F
      ·grind [il,uh,Q.run,iL]
      ·rename_i V lM
       rw[em]at V
       simp at V;subst V
       split at F
       ·rename_i K
        simp at K
        simp[Q.run]at F;obtain⟨rfl,rfl⟩:=F
        have: ∃blk off D sp,a.eval x= .slice (some ⟨blk,off,sp⟩) len D:=by
         generalize st.rho W=tx at*
         cases tx <;> simp[uh]at E
         case nilsl=>exact absurd rfl lM
         case sl cs SE ex=>
          subst E
          simp only[il,PRel]at H
          obtain⟨blk,off,D,sp,N,_⟩:=H
          exact⟨blk,off,D,sp,N⟩
         case isl sp k g off SE sz=>
          subst E
          simp only[il]at H
          obtain⟨_,D,N,_⟩:=H
          exact⟨_,_,D,none,N⟩
        obtain⟨blk,off,D,sp,N⟩:=this
        refine iL h (I _ _ N km zm vm' (by omega) K.1 K.2) ?_
        simp only[il,PRel]
        exact⟨blk,off,0,sp,rfl,Nat.le_refl _,fun _=>rfl,.inr rfl,by simp[PCells]⟩
       ·simp[Q.run]at F
      ·simp[Q.run]at F
end
end Go.Ev
namespace Go.Ev
open Go
section
variable{P:Program}{B:lL}{st:St}{a:Act}{w:World}{β:iJ}{M:MSet}{o:Oper}{v:T}{ups:List Up}
theorem Ku{D:Bool}{x y:T}{E:List T}{r:T}(h:nG D x (y::E)=some r): ∃k n,x= .i k n:=by
 unfold nG at h
 grind
theorem kQ{c:Call}{b:Builtin}(D:o.op= .call c)(E:c.callee= .builtin b):
  (execOp a.eval o).run P w=(builtin b c.argTypes o.type (c.args.map fun| .const _=>true|_=>false) (c.args.map a.eval)).run P w:=by
 simp only[execOp,D,resolve,E,Sem.run_bind]
 rfl
theorem xo{args:Array Operand}{x:Operand}(h:args.toList= [x])(f:Operand→Value):args.map f= #[f x]:=by
 apply Array.ext';simp[h]
theorem Xq{args:Array Operand}{x y:Operand}(h:args.toList= [x,y])(f:Operand→Value):args.map f= #[f x,f y]:=by
 apply Array.ext';simp[h]
variable(kP:pC β st.gens w M st.rho a.eval)(h:iU B st w β M)
include kP h
theorem Xr{d H:Nat}{c:Call}{t:TypeId}{x:Operand}{E:iD}(I:o.op= .call c)(J:c.callee= .builtin .len)(K:c.argTypes[0]? =some t)(N:c.args.toList= [x])(O:P.underlying t=some .string)(U:lJ x=some E)
  (D:(jk d st.rho (.lenS E)).run st.get H=some (.val v ups)):ln P B st a w β M o v ups:=by
 have F:=kP x E U
 simp only[jk]at D
 split at D
 ·rename_i W e
  simp[Q.run]at D;obtain⟨rfl,rfl⟩:=D
  rw[e]at F
  obtain⟨s,V,rfl⟩:=F.str
  refine iL h (cv:= .int .i64 s.size) ?_ (by simp only[il,ml])
  rw[kQ I J,xo N]
  simp[builtin,Builtin.len_,K,V,run_underlying O,goInt]
 ·simp[Q.run]at D
theorem Xs{d J:Nat}{c:Call}{t e:TypeId}{x:Operand}{D:iD}(K:o.op= .call c)(N:c.callee= .builtin .len)(O:c.argTypes[0]? =some t)(U:c.args.toList= [x])(V:P.underlying t=some (.slice e))(W:lJ x=some D)
  (F:(jk d st.rho (.lenV D)).run st.get J=some (.val v ups)):ln P B st a w β M o v ups:=by
 have Z:=kP x D W
 simp only[jk]at F
 cases H:uh (st.rho D)with
 |none=>simp[H,Ev.val,Q.run]at F
 |some n=>
  simp[H,Ev.val,Q.run]at F;obtain⟨rfl,rfl⟩:=F
  have: ∃I E,a.eval x= .slice I n E:=by
   generalize st.rho D=X at*
   cases X <;> simp[uh]at H
   case nilsl=>grind [il]
   case sl cs SE ex=>grind [il,PRel]
   grind [il]
  obtain⟨I,E,Y⟩:=this
  refine iL h (cv:= .int .i64 n) ?_ (by simp only[il])
  rw[kQ K N,xo U]
  simp[builtin,Builtin.len_,O,Y,run_underlying V,goInt]
theorem Xt{d nx:Nat}{c:Call}{t kt et:TypeId}{x:Operand}{K:iD}(U:o.op= .call c)(V:c.callee= .builtin .len)(W:c.argTypes[0]? =some t)(X:c.args.toList= [x])(Y:P.underlying t=some (.map kt et))(hx:lJ x=some K)
  (E:(jk d st.rho (.lenM K)).run st.get nx=some (.val v ups)):ln P B st a w β M o v ups:=by
 have F:=kP x K hx
 have I: ∀blk H D,a.eval x= .map (some blk)→w.heap[blk]? =some (.map H D)→(execOp a.eval o).run P w= .ok (.value (.int .i64 H.size)) w:=by
  intro blk H D N J
  rw[kQ U V,xo X]
  simp[builtin,Builtin.len_,W,N,run_underlying Y,goInt,getObj,Sem.run,J]
 simp only[jk]at E
 split at E
 ·rename_i e
  simp[Q.run]at E;obtain⟨rfl,rfl⟩:=E
  rw[e]at F;simp only[il]at F
  refine iL h (cv:= .int .i64 0) ?_ (by simp only[il])
  rw[kQ U V,xo X]
  simp[builtin,Builtin.len_,W,F,run_underlying Y,goInt]
 ·rename_i ks vs e
  simp[Q.run]at E;obtain⟨rfl,rfl⟩:=E
  rw[e]at F;simp only[il,PRel]at F
  obtain⟨blk,H,D,N,J,_,_,O,_⟩:=F
  refine iL h (I blk H D N J) ?_
  simp only[il]
  have:=PList.length _ _ O
  grind
 ·rename_i sp k g e
  simp only[Q.run]at E
  split at E
  ·rename_i Z
   have AF:=h.obj sp k
   generalize he:st.get sp k=en at*
   obtain⟨ge,ob⟩:=en
   dsimp only at Z;subst Z
   cases ob with
   |none=>simp[Q.run]at E
   |cells _ _ _=>simp[Q.run]at E
   |map ks vs f=>
    simp[Q.run]at E;obtain⟨rfl,rfl⟩:=E
    rw[e]at F;simp only[il]at F
    unfold kM at AF
    obtain⟨H,D,J,_,O,_⟩:=AF
    refine iL h (I _ H D F.2 J) ?_
    simp only[il]
    have:=PList.length _ _ O
    simp at this;rw[this]
  ·simp[Q.run]at E
 ·simp[Q.run]at E
omit kP in
theorem Xu{c:Call}{t e:TypeId}{n:Nat}{x:Operand}(D:o.op= .call c)(E:c.callee= .builtin .len)(F:c.argTypes[0]? =some t)(H:c.args.toList= [x])(I:P.underlying t=some (.array n e)):
  ln P B st a w β M o (.i .i64 n) []:=by
 refine iL h (cv:= .int .i64 n) ?_ (by simp only[il])
 rw[kQ D E,xo H]
 simp[builtin,Builtin.len_,F,run_underlying I,goInt]
omit kP h in
theorem Mm{k:IntKind}: ∀(D:List T) (F:List Value) (x:Int) (r:T),iq β st.gens w M D F→nG false (.i k x) D=some r→ ∃n,r= .i k n∧(F.foldlM Builtin.min2 (.int k x)).run P w= .ok (.int k n) w
 | [],F,x,r,H,E=>by
   simp_all[iq,nG]
 |t::ts,F,x,r,H,E=>by
  simp only[iq]at H
  obtain⟨u,us,rfl,I,J⟩:=H
  cases t <;> simp only[nG]at E <;> try (cases E;done)
  rename_i k' y
  split at E
  ·rename_i K;subst K
   have:=I.int;subst this
   obtain⟨n,N,O⟩:=Mm ts us _ r J E
   grind [Sem.run_bind,Builtin.min2,Sem.run_pure,Result.andThen_ok]
  ·cases E
omit kP h in
theorem Mn{k:IntKind}: ∀(D:List T) (F:List Value) (x:Int) (r:T),iq β st.gens w M D F→nG true (.i k x) D=some r→ ∃n,r= .i k n∧(F.foldlM Builtin.max2 (.int k x)).run P w= .ok (.int k n) w
 | [],F,x,r,H,E=>by
   simp_all[iq,nG]
 |t::ts,F,x,r,H,E=>by
  simp only[iq]at H
  obtain⟨u,us,rfl,I,J⟩:=H
  cases t <;> simp only[nG]at E <;> try (cases E;done)
  rename_i k' y
  split at E
  ·rename_i K;subst K
   have:=I.int;subst this
   obtain⟨n,N,O⟩:=Mn ts us _ r J E
   grind [Sem.run_bind,Builtin.max2,Sem.run_pure,Result.andThen_ok]
  ·cases E
theorem ab7{d Z:Nat}{D:Bool}{c:Call}{as:List iD}(J:o.op= .call c)(K:c.callee= .builtin (if D then .max else .min))(ha:zd c.args.toList=some as)
  (H:(jk d st.rho (.mm D as)).run st.get Z=some (.val v ups)):ln P B st a w β M o v ups:=by
 have N:=vb kP ha
 simp only[jk]at H
 split at H
 ·rename_i x E e
  cases F:nG D x E with
  |none=>simp[F,Ev.val,Q.run]at H
  |some r=>
   simp[F,Ev.val,Q.run]at H;obtain⟨rfl,rfl⟩:=H
   rw[e]at N
   simp only[iq]at N
   obtain⟨u,us,O,W,I⟩:=N
   cases E with
   |nil=>
    simp[nG]at F;subst F
    simp only[iq]at I;subst I
    refine iL h (cv:=u) ?_ W
    rw[kQ J K]
    cases D <;> simp[builtin,Builtin.min_,Builtin.max_,O]
   |cons y X=>
    obtain⟨k,Y,rfl⟩:=Ku F
    have:=W.int;subst this
    cases D with
    |false=>
     obtain⟨n,U,V⟩:=Mm (P:=P) (y::X) us Y r I F
     subst U
     refine iL h (cv:= .int k n) ?_ (by simp only[il])
     rw[kQ J K]
     simp[builtin,Builtin.min_,O,V]
    |true=>
     obtain⟨n,U,V⟩:=Mn (P:=P) (y::X) us Y r I F
     subst U
     refine iL h (cv:= .int k n) ?_ (by simp only[il])
     rw[kQ J K]
     simp[builtin,Builtin.max_,O,V]
 ·simp[Q.run]at H
end
theorem sR{P:Program}{t:TypeId}{k:CK}(h:vM P t=some k):match k with| .int=> ∃D,P.underlying t=some (.int D)| .str=>P.underlying t=some .string| .bool=>P.underlying t=some .bool:=by
 grind [vM]
theorem wx{P:Program}{β:iJ}{G:Sp→Nat→Nat}{w:World}{M:MSet}{t:TypeId}{k:CK}{x y:T}{cx H:Value}{r:Bool}(d:Nat)(I:vM P t=some k)(E:il β G w M x cx)(F:il β G w M y H)(h:kO k x y=some r):
  (Op.equalIn (d+1) t cx H).run P w= .ok r w:=by
 have D:=sR I
 unfold kO at h
 split at h
 ·simp at h;subst h
  rw[E.bool,F.bool]
  exact run_equalIn_bool' w d t _ _ D
 ·split at h
  ·rename_i e;subst e
   simp at h;subst h
   obtain⟨J,D⟩:=D
   rw[E.int,F.int]
   exact run_equalIn_int w d t _ J _ _ D
  ·cases h
 ·simp at h;subst h
  obtain⟨bx,K,rfl⟩:=E.str
  obtain⟨O,N,rfl⟩:=F.str
  rw[K,N,run_equalIn_string w d t _ _ D,kq,kq,mG]
 ·cases h
theorem xp{P:Program}{β:iJ}{G:Sp→Nat→Nat}{w:World}{M:MSet}(d:Nat){J K:Array Value}{xs H:List T}(W:iq β G w M xs J.toList)(X:iq β G w M H K.toList):
  ∀(I:List Field) (i:Nat) (ks:List CK) (r:Bool),nT P i I=some ks→ju ks (xs.drop i) (H.drop i)=some r→(Op.eqFields (d+1) J K I).run P w= .ok r w
 | [],i,ks,r,E,D=>by
   simp[nT]at E;subst E
   generalize xs.drop i=Z at D
   generalize H.drop i=yd at D
   cases Z <;> cases yd <;> simp[ju]at D
   subst D;simp[Op.eqFields]
 |f::I,i,ks,r,E,D=>by
  simp only[nT]at E
  split at E
  ·rename_i F
   simp at F
   obtain⟨⟨c1,c2⟩,c3⟩:=F
   split at E
   ·rename_i k N Y h2
    simp at E;subst E
    cases SF:xs.drop i with
    |nil=>grind [ju]
    |cons x xr=>
     cases Mo:H.drop i with
     |nil=>grind [ju]
     |cons y yr=>
      rw[SF,Mo]at D
      simp only[ju]at D
      have gx:xs[i]? =some x:=by have:=congrArg (·[0]?) SF;simpa using this
      have gy:H[i]? =some y:=by have:=congrArg (·[0]?) Mo;simpa using this
      obtain⟨cx,ax,vx⟩:=W.get gx
      obtain⟨cy,ay,vy⟩:=X.get gy
      have agg:tS P f.type=some false:=by
       have:=sR Y
       grind [tS]
      have pD:(Go.part f.type J f.offset).run P w= .ok cx w:=by
       simp_all[Go.part,Sem.run_bind,qb,Result.andThen_ok]
      have O:(Go.part f.type K f.offset).run P w= .ok cy w:=by
       simp_all[Go.part,Sem.run_bind,qb,Result.andThen_ok]
      have U:xs.drop (i+1)=xr:=by rw[←List.drop_drop,SF];rfl
      have V:H.drop (i+1)=yr:=by rw[←List.drop_drop,Mo];rfl
      simp only[Op.eqFields,if_pos (show f.name≠ "_" from c2),Sem.run_bind,pD,O,Result.andThen_ok]
      cases F:kO k x y with
      |none=>simp[F]at D
      |some b=>
       rw[wx d Y vx vy F]
       cases b with
       |false=>simp[F]at D;subst D;simp
       |true=>
        simp only[F]at D
        simp only[Result.andThen_ok,Bool.not_true,Bool.false_eq_true,if_false]
        exact xp d W X I (i+1) N r h2 (by rw[U,V];exact D)
   ·cases E
  ·cases E
theorem Ab{P:Program}{β:iJ}{G:Sp→Nat→Nat}{w:World}{M:MSet}(d:Nat){e:TypeId}{k:CK}(K:vM P e=some k){H I:Array Value}{xs E:List T}(V:iq β G w M xs H.toList)(W:iq β G w M E I.toList):
  ∀(n i:Nat) (r:Bool),ju (List.replicate n k) (xs.drop i) (E.drop i)=some r→(Op.eqItems (d+1) e 1 H I (List.range' i n)).run P w= .ok r w
 |0,i,r,D=>by
  generalize xs.drop i=Y at D
  generalize E.drop i=Z at D
  cases Y <;> cases Z <;> simp[ju]at D
  subst D;simp[Op.eqItems]
 |n+1,i,r,D=>by
  rw[List.replicate_succ]at D
  cases SF:xs.drop i with
  |nil=>rw[SF]at D;cases E.drop i <;> simp[ju]at D
  |cons x xr=>
   cases Mo:E.drop i with
   |nil=>rw[SF,Mo]at D;simp[ju]at D
   |cons y yr=>
    rw[SF,Mo]at D
    simp only[ju]at D
    have gx:xs[i]? =some x:=by have:=congrArg (·[0]?) SF;simpa using this
    have gy:E[i]? =some y:=by have:=congrArg (·[0]?) Mo;simpa using this
    obtain⟨cx,ax,vx⟩:=V.get gx
    obtain⟨X,ay,vy⟩:=W.get gy
    have F:tS P e=some false:=by
     have:=sR K
     unfold tS
     cases k
     ·obtain⟨ik,e⟩:=this;simp[e]
     ·simp[this]
     ·simp[this]
    have pD:(Go.part e H (i*1)).run P w= .ok cx w:=by
     unfold Go.part;simp only[Sem.run_bind,qb F,Result.andThen_ok]
     have:H[i]? =some cx:=by simpa using ax
     simp[this]
    have N:(Go.part e I (i*1)).run P w= .ok X w:=by
     unfold Go.part;simp only[Sem.run_bind,qb F,Result.andThen_ok]
     have:I[i]? =some X:=by simpa using ay
     simp[this]
    have O:xs.drop (i+1)=xr:=by rw[←List.drop_drop,SF];rfl
    have U:E.drop (i+1)=yr:=by rw[←List.drop_drop,Mo];rfl
    simp only[List.range'_succ,Op.eqItems,Sem.run_bind,pD,N,Result.andThen_ok]
    cases J:kO k x y with
    |none=>simp[J]at D
    |some b=>
     rw[wx d K vx vy J]
     cases b with
     |false=>simp[J]at D;subst D;simp
     |true=>
      simp only[J]at D
      simp only[Result.andThen_ok,Bool.not_true,Bool.false_eq_true,if_false]
      exact Ab d K V W n (i+1) r (by rw[O,U];exact D)
theorem qc{P:Program}{t:TypeId}{k:EK}(h:BX P t=some k):match k with
  | .one c=>vM P t=some c
  | .flat ks=>P.eqGuardType P.depth t=false∧((∃E,P.underlying t=some (.struct E)∧P.stoodInHeld t=false∧nT P 0 E.toList=some ks)∨ ∃n e c,P.underlying t=some (.array n e)∧P.cellsOf e=1∧vM P e=some c∧ks=List.replicate n c)
  | .sl=> ∃e,P.underlying t=some (.slice e)
  | .ptr=> ∃e,P.underlying t=some (.pointer e)
  | .map=> ∃a b,P.underlying t=some (.map a b):=by
 unfold BX at h
 split at h
 ·simp at h;subst h;rename_i e;simp[vM,e]
 ·simp at h;subst h;rename_i e;simp[vM,e]
 ·simp at h;subst h;rename_i e;simp[vM,e]
 ·simp at h;subst h;rename_i x e;exact⟨x,e⟩
 ·simp at h;subst h;rename_i x e;exact⟨x,e⟩
 ·simp at h;subst h;rename_i x y e;exact⟨x,y,e⟩
 ·rename_i E e
  split at h
  ·rename_i D
   simp only[Option.map_eq_some_iff]at h
   obtain⟨ks,F,rfl⟩:=h
   simp at D
   exact⟨D.1,.inl ⟨E,e,D.2,F⟩⟩
  ·cases h
 ·rename_i n e H
  split at h
  ·rename_i D
   simp only[Option.map_eq_some_iff]at h
   obtain⟨c,F,rfl⟩:=h
   simp at D
   exact⟨D.1,.inr ⟨n,e,c,H,D.2,F,rfl⟩⟩
  ·cases h
 ·cases h
theorem AG{P:Program}(w:World)(d:Nat)(t e:TypeId)(p:Option Addr)(h:P.underlying t=some (.pointer e)):(Op.equalIn (d+1) t (.pointer p) (.pointer none)).run P w= .ok p.isNone w:=by
 cases p <;> simp[Op.equalIn,run_underlying h]
theorem rz{P:Program}(w:World)(t e:TypeId)(p:Option Addr)(h:P.underlying t=some (.pointer e)):(Op.equal t (.pointer p) (.pointer none)).run P w= .ok p.isNone w:=AG w 9999 t e p h
theorem Mp{P:Program}{β:iJ}{G:Sp→Nat→Nat}{w:World}{M:MSet}{t:TypeId}{k:EK}{x y:T}{cx O:Value}{r:Bool}(Z:BX P t=some k)(E:il β G w M x cx)(F:il β G w M y O)(h:tO k x y=some r):
  (Op.equal t cx O).run P w= .ok r w:=by
 have D:=qc Z
 unfold tO at h
 split at h
 ·exact wx 9999 D E F h
 ·rename_i ks xs ys
  simp only[il]at E F
  obtain⟨U,rfl,V,_⟩:=E
  obtain⟨W,rfl,X,_⟩:=F
  obtain⟨u2,⟨fs,J,N,K⟩|⟨n,e,c,J,N,K,rfl⟩⟩:=D
  ·have Y:P.fieldsOf t=fs:=by simp[Program.fieldsOf,J]
   have:=run_equalIn_struct w 9999 t U W (by rw[Y];exact J) N
   rw[Y]at this
   exact this.trans (xp 9998 V X _ 0 ks r K (by simpa using h))
  ·obtain⟨inf,hi⟩: ∃i,P.info? e=some i:=by
    cases H:P.underlying e with
    |none=>simp[vM,H]at K
    |some _=>exact info_of_underlying H
   have:=run_equalIn_array w 9999 U W J hi
   rw[N,List.range_eq_range']at this
   exact this.trans (Ab 9998 K V X n 0 r (by simpa using h))
 ·simp at h;subst h
  obtain⟨e,D⟩:=D
  simp only[il]at E F;subst E;subst F
  exact run_equal_slice_nil w t e _ _ _ D
 ·simp at h;subst h
  obtain⟨e,D⟩:=D
  simp only[il,PRel]at E F
  obtain⟨_,_,_,_,rfl,_⟩:=E;subst F
  exact run_equal_slice_nil w t e _ _ _ D
 ·simp at h;subst h
  obtain⟨e,D⟩:=D
  simp only[il]at E F
  obtain⟨_,_,rfl,_⟩:=E;subst F
  exact run_equal_slice_nil w t e _ _ _ D
 ·grind [il,rz]
 ·grind [il,PRel,rz]
 ·grind [il,rz]
 ·simp at h;subst h
  obtain⟨e,I,D⟩:=D
  simp only[il]at E F;subst E;subst F
  exact run_equal_map_nil w t e I _ D
 ·simp at h;subst h
  obtain⟨e,I,D⟩:=D
  simp only[il,PRel]at E F
  obtain⟨_,_,_,rfl,_⟩:=E;subst F
  exact run_equal_map_nil w t e I _ D
 ·simp at h;subst h
  obtain⟨e,I,D⟩:=D
  simp only[il]at E F
  obtain⟨_,rfl⟩:=E;subst F
  exact run_equal_map_nil w t e I _ D
 ·cases h
end Go.Ev
namespace Go.Ev
open Go
section
variable{P:Program}{B:lL}{st:St}{a:Act}{w:World}{β:iJ}{M:MSet}{o:Oper}{v:T}{ups:List Up}
variable(kP:pC β st.gens w M st.rho a.eval)(h:iU B st w β M)
include kP h in
theorem Mq{neg:Bool}{k:EK}{t Z:TypeId}{x y:Operand}{O U:iD}(X:o.op= .binOp (if neg then .neq else .eql) t x y Z)(hx:lJ x=some O)(hy:lJ y=some U)(Y:BX P t=some k)(hn:k≠ .one .int∧k≠ .one .str){r:Bool}
  (K:tO k (st.rho O) (st.rho U)=some r):ln P B st a w β M o (.b (r != neg)) []:=by
 have E:=kP x O hx
 have F:=kP y U hy
 have W:=Mp (P:=P) Y E F K
 have hu:=qc Y
 refine iL h (cv:= .bool (r != neg)) ?_ (by simp only[il])
 generalize st.rho O=tx at*
 generalize st.rho U=ty at*
 have D: ∀cx I,a.eval x=cx→a.eval y=I→(eqGuard (if neg then .neq else .eql) t x y cx I).run P w= .ok () w→
   ((binOp .eql t cx I)=(do pure (.bool (←Op.equal t cx I))))→((binOp .neq t cx I)=(do pure (.bool (!(←Op.equal t cx I)))))→(execOp a.eval o).run P w= .ok (.value (.bool (r != neg))) w:=by
  intro cx I H N V e4 e5
  rw[H,N]at W
  cases neg
  ·simp at V
   simp[execOp,X,H,N,V,e4,W]
  ·simp at V
   simp[execOp,X,H,N,V,e5,W]
 have J: ∀cx I,(∀z,cx≠ .agg z)→cx≠ .nilIface→(eqGuard (if neg then .neq else .eql) t x y cx I).run P w= .ok () w:=by
  intro cx I h1 h2
  cases neg <;> cases cx <;> simp[eqGuard]at*
 unfold tO at K
 split at K
 ·rename_i c
  unfold kO at K
  split at K
  ·exact D _ _ E.bool F.bool (J _ _ (by simp) (by simp)) rfl rfl
  ·grind
  ·grind
  ·cases K
 ·obtain⟨u2,_⟩:=hu
  simp only[il]at E F
  obtain⟨xa,H,_⟩:=E
  obtain⟨ya,N,_⟩:=F
  exact D _ _ H N (run_eqGuard_agg w _ t x y xa ya u2) rfl rfl
 ·simp only[il]at E F
  exact D _ _ E F (J _ _ (by simp) (by simp)) rfl rfl
 ·simp only[il,PRel]at E F
  obtain⟨_,_,_,_,H,_⟩:=E
  exact D _ _ H F (J _ _ (by simp) (by simp)) rfl rfl
 ·simp only[il]at E F
  obtain⟨_,_,H,_⟩:=E
  exact D _ _ H F (J _ _ (by simp) (by simp)) rfl rfl
 ·simp only[il]at E F
  exact D _ _ E F (J _ _ (by simp) (by simp)) rfl rfl
 ·simp only[il,PRel]at E F
  obtain⟨_,_,H,_⟩:=E
  exact D _ _ H F (J _ _ (by simp) (by simp)) rfl rfl
 ·simp only[il]at E F
  exact D _ _ E.2 F (J _ _ (by simp) (by simp)) rfl rfl
 ·simp only[il]at E F
  exact D _ _ E F (J _ _ (by simp) (by simp)) rfl rfl
 ·simp only[il,PRel]at E F
  obtain⟨_,_,_,H,_⟩:=E
  exact D _ _ H F (J _ _ (by simp) (by simp)) rfl rfl
 ·simp only[il]at E F
  exact D _ _ E.2 F (J _ _ (by simp) (by simp)) rfl rfl
 ·cases K
end
theorem Kv{P:Program}{β:iJ}{G:Sp→Nat→Nat}{w:World}{M:MSet}{t:TypeId}{c:CK}{H:TypeDesc}{k x:T}{kv I:Value}{b:Bool}(J:vM P t=some c)(D:P.underlying t=some H)(E:il β G w M k kv)(F:il β G w M x I)(h:kO c k x=some b):
  Instr.sameNow H kv I=some b:=by
 have Kt:=sR J
 unfold kO at h
 split at h
 ·simp at h;subst h
  rw[E.bool,F.bool]
  simp only at Kt
  rw[D]at Kt;simp at Kt;subst Kt
  rfl
 ·split at h
  ·rename_i e;subst e
   simp at h;subst h
   obtain⟨O,Kt⟩:=Kt
   rw[D]at Kt;simp at Kt;subst Kt
   rw[E.int,F.int];simp[Instr.sameNow]
  ·cases h
 ·simp at h;subst h
  simp only at Kt
  rw[D]at Kt;simp at Kt;subst Kt
  obtain⟨U,K,rfl⟩:=E.str
  obtain⟨V,N,rfl⟩:=F.str
  rw[K,N]
  simp[Instr.sameNow,beq_toListBytes,kq,mG]
 ·cases h
def Found(E:List MapEntry)(off:Nat)(r:Option Nat)(D:Option (Nat×Value)):Prop:=
 match r with
 |none=>D=none
 |some i=> ∃e,E[i]? =some e∧D=some (off+i,e.val)
theorem B3{P:Program}{β:iJ}{G:Sp→Nat→Nat}{w:World}{M:MSet}{t:TypeId}{c:CK}{J:TypeDesc}{k:T}{kv:Value}(K:vM P t=some c)(N:P.underlying t=some J)(O:il β G w M k kv):
  ∀(F:List MapEntry) (ks:List T) (off:Nat) (r:Option Nat),PList w M ks (F.map (·.key))→m9 (.one c) k ks=some r→ ∃D,Instr.findNow J kv F off=some D∧Found F off r D
 | [],ks,off,r,H,E=>by
   cases ks with
   |nil=>simp[m9]at E;subst E;exact⟨none,rfl,rfl⟩
   |cons x xs=>simp[PList]at H
 |e::F,ks,off,r,H,E=>by
  cases ks with
  |nil=>simp[PList]at H
  |cons x xs=>
   simp only[List.map_cons,PList,List.cons.injEq]at H
   obtain⟨u,us,⟨rfl,rfl⟩,W,X⟩:=H
   simp only[m9,tO]at E
   cases I:kO c k x with
   |none=>simp[I]at E
   |some b=>
    have hs:=Kv K N O (PRel.toV β G _ _ W) I
    cases b with
    |true=>
     simp[I]at E;subst E
     exact⟨some (off,e.val),by simp[Instr.findNow,hs],e,rfl,rfl⟩
    |false=>
     simp only[I,Option.map_eq_some_iff]at E
     obtain⟨U,Y,rfl⟩:=E
     obtain⟨D,Z,V⟩:=B3 K N O F xs (off+1) U X Y
     refine⟨D,by simp[Instr.findNow,hs,Z], ?_⟩
     cases U with
     |none=>exact V
     |some i=>
      obtain⟨e',a1,a2⟩:=V
      exact⟨e',by simpa using a1,by rw[a2];simp;omega⟩
theorem vY{P:Program}{β:iJ}{G:Sp→Nat→Nat}{w:World}{M:MSet}{t:TypeId}{J:EK}{k:T}{kv:Value}(K:BX P t=some J)(N:il β G w M k kv):
  ∀(F:List MapEntry) (ks:List T) (off:Nat) (r:Option Nat),PList w M ks (F.map (·.key))→m9 J k ks=some r→ ∃D,(Instr.findAsking t kv F off).run P w= .ok D w∧Found F off r D
 | [],ks,off,r,H,E=>by
   cases ks with
   |nil=>simp[m9]at E;subst E;exact⟨none,by simp[Instr.findAsking],rfl⟩
   |cons x xs=>simp[PList]at H
 |e::F,ks,off,r,H,E=>by
  cases ks with
  |nil=>simp[PList]at H
  |cons x xs=>
   simp only[List.map_cons,PList,List.cons.injEq]at H
   obtain⟨u,us,⟨rfl,rfl⟩,V,W⟩:=H
   simp only[m9]at E
   cases I:tO J k x with
   |none=>simp[I]at E
   |some b=>
    have hs:=Mp (P:=P) K N (PRel.toV β G _ _ V) I
    cases b with
    |true=>
     simp[I]at E;subst E
     exact⟨some (off,e.val),by simp[Instr.findAsking,hs],e,rfl,rfl⟩
    |false=>
     simp only[I,Option.map_eq_some_iff]at E
     obtain⟨O,X,rfl⟩:=E
     obtain⟨D,Y,U⟩:=vY K N F xs (off+1) O W X
     refine⟨D,by simp[Instr.findAsking,hs,Y], ?_⟩
     cases O with
     |none=>exact U
     |some i=>
      obtain⟨Z,a1,a2⟩:=U
      exact⟨Z,by simpa using a1,by rw[a2];simp;omega⟩
theorem FC{P:Program}{t:TypeId}{D:EK}(h:keyOf P t=some D):BX P t=some D∧((∃c,D= .one c)∨ ∃ks,D= .flat ks):=by
 grind [keyOf]
theorem SG{P:Program}{t:TypeId}{ks:List CK}(h:keyOf P t=some (.flat ks)): ∃D,P.underlying t=some (.struct D)∧nT P 0 D.toList=some ks:=by
 have F:=(FC h).1
 unfold keyOf at h
 rw[F]at h
 obtain⟨_,⟨D,E,_,H⟩|⟨n,e,c,E,_⟩⟩:=qc F
 ·exact⟨D,E,H⟩
 ·simp[E]at h
theorem sS{P:Program}{β:iJ}{G:Sp→Nat→Nat}{w:World}{M:MSet}{t:TypeId}{K:EK}{k:T}{kv:Value}(N:keyOf P t=some K)(O:il β G w M k kv)(E:List MapEntry)(ks:List T)(r:Option Nat)(I:PList w M ks (E.map (·.key)))
  (H:m9 K k ks=some r): ∃D,(Instr.findKey t kv E).run P w= .ok D w∧Found E 0 r D:=by
 obtain⟨U,Y⟩:=FC N
 unfold Instr.findKey
 rcases Y with⟨c,rfl⟩|⟨ck,rfl⟩
 ·have Wz:=qc U
  simp only at Wz
  have: ∃V,P.underlying t=some V:=by
   have:=sR Wz
   grind
  obtain⟨V,W⟩:=this
  obtain⟨D,J,F⟩:=B3 Wz W O E ks 0 r I H
  exact⟨D,by simp[run_underlying W,J],F⟩
 ·obtain⟨Z,X,_⟩:=SG N
  obtain⟨D,J,F⟩:=vY (P:=P) U O E ks 0 r I H
  cases E with
  |nil=>
   refine⟨D, ?_,F⟩
   have:D=none:=by
    cases ks with
    |nil=>simp[m9]at H;subst H;exact F
    |cons x xs=>simp[PList]at I
   subst this
   simp[run_underlying X,Instr.findNow]
  |cons e E=>
   refine⟨D, ?_,F⟩
   have:Instr.sameNow (.struct Z) kv e.key=none:=by unfold Instr.sameNow;split <;> simp_all
   simp[run_underlying X,Instr.findNow,this,J]
theorem xq{P:Program}{w:World}{t:TypeId}{c:CK}(D:vM P t=some c)(n:Nat)(E:Bool)(v:Value):(Instr.checkKey E (n+1) t v).run P w= .ok () w:=by
 have:=sR D
 cases c
 ·obtain⟨F,e⟩:=this;simp[Instr.checkKey,run_underlying e]
 ·simp[Instr.checkKey,run_underlying this]
 ·simp[Instr.checkKey,run_underlying this]
theorem tI{P:Program}{w:World}(n:Nat)(H:Bool)(cs:Array Value): ∀(E:List Field) (i:Nat) (ks:List CK),nT P i E=some ks→i+ks.length≤cs.size→
  (forIn E PUnit.unit (fun f (_:PUnit)=>
    if f.name≠ "_" then(do
     let p ←Go.part f.type cs f.offset
     Instr.checkKey H (n+1) f.type p
     pure (ForInStep.yield PUnit.unit))else pure (ForInStep.yield PUnit.unit):Field→PUnit→Sem (ForInStep PUnit))).run P w= .ok PUnit.unit w
 | [],i,ks,D,hs=>by simp
 |f::E,i,ks,D,hs=>by
  simp only[nT]at D
  split at D
  ·rename_i I
   simp at I
   obtain⟨⟨O,U⟩,V⟩:=I
   split at D
   ·rename_i k F J K
    simp at D;subst D
    have N:tS P f.type=some false:=by
     have:=sR J
     grind [tS]
    have hi:i<cs.size:=by simp at hs;omega
    have W:(Go.part f.type cs f.offset).run P w= .ok cs[i] w:=by
     simp_all[Go.part,Sem.run_bind,qb,Result.andThen_ok,Array.getElem?_eq_getElem]
    have ih:=tI (P:=P) (w:=w) n H cs E (i+1) F K (by simp at hs;omega)
    grind [Sem.run_bind,Result.andThen_ok,xq,Sem.run_pure]
   ·cases D
  ·cases D
theorem Ac{P:Program}{β:iJ}{G:Sp→Nat→Nat}{w:World}{M:MSet}{t:TypeId}{F:EK}{k:T}{kv:Value}(H:keyOf P t=some F)(I:il β G w M k kv)(Mr:isKey F k=true)(n:Nat)(E:Bool):
  (Instr.checkKey E (n+2) t kv).run P w= .ok () w:=by
 obtain⟨K,N⟩:=FC H
 rcases N with⟨c,rfl⟩|⟨ck,rfl⟩
 ·exact xq (qc K) (n+1) E kv
 ·obtain⟨O,U,V⟩:=SG H
  unfold isKey at Mr
  split at Mr
  ·simp_all
  ·rename_i ks xs e
   simp at e;subst e
   simp only[il]at I
   obtain⟨D,rfl,W,_⟩:=I
   have J:ck.length≤D.size:=by
    have X:=iq.length _ _ W
    have: ∀(ks:List CK) (xs:List T),pL ks xs=true→ks.length=xs.length:=by
     intro ks
     induction ks with
     |nil=>intro xs h;cases xs <;> simp[pL]at h ⊢
     |cons k ks ih=>intro xs h;cases xs <;> simp[pL]at h ⊢; exact ih _ h.2
    grind
   have:=tI (P:=P) (w:=w) n E D O.toList 0 ck V (by omega)
   rw[Instr.checkKey]
   simp only[Sem.run_bind,run_underlying U,Result.andThen_ok]
   simp_all
  ·cases Mr
end Go.Ev
