/- A tree evaluator over the model, proved against it (part B): where it answers, the call returns that answer. Conditions: none beyond its theorems' own. -/
import Derived.Test.YtblcbheipjeoeaaGreatEvA
import Derived.Laws.Cells
import Derived.Laws.CopyRow
import Derived.Laws.AppendOwn
import Derived.Laws.Entries
import Derived.Laws.StructEq
import Derived.Laws.Cover3
set_option linter.unusedSimpArgs false
set_option linter.unusedVariables false
namespace Go.Ev
open Go
theorem yj{w:World}{M:im}{v:Value}{t:T}(h:xp v=some t):PRel w M t v∧single t=true:=by
 unfold xp at h
 grind [PRel,single,PList]
theorem wz{w:World}{M:im}: ∀{i:List Value} {ts:List T},pg i=some ts→PList w M ts i∧ts.all single=true
 | [],ts,h=>by grind [pg,PList]
 |v::i,ts,h=>by
  simp only[pg]at h
  split at h
  ·rename_i t DE r C
   simp at h;subst h
   have a:=yj (w:=w) (M:=M) r
   have b:=wz (w:=w) (M:=M) C
   simp only[PList,List.all_cons,Bool.and_eq_true]
   grind
  ·simp at h
theorem rD{w:World}{M:im}{v:Value}{t:T}(h:Dz v=some t):PRel w M t v:=by
 unfold Dz at h
 grind [Option.map_eq_some_iff,PRel,wz,yj]
def qH(β:iJ)(G:Sp→Nat→Nat)(w:World)(M:im)(ρ:iz→T)(e:Operand→Value):Prop:= ∀x y,lP x=some y→gW β G w M (ρ y) (e x)
theorem VP{st:St}{a:Act}{w:World}{β:iJ}{M:im}{n:Nat}(h:ou st a w β M n):qH β st.gens w M st.rho a.eval:=by
 intro x y i
 cases x with
 |tmp t=>simp[lP]at i;subst i;exact h.slot t
 |const v=>
  simp only[lP,Option.map_eq_some_iff]at i
  obtain⟨t,r,rfl⟩:=i
  exact PRel.toV _ _ _ _ (rD r)
 |global g=>simp[lP]at i
 |func f=>grind [lP,St.rho,Act.eval,gW,gY]
def lz(P:Program)(B:lS)(st:St)(a:Act)(w:World)(β:iJ)(M:im)(o:Oper)(v:T)(ups:List Up):Prop:=
 ∃i cv w' r M',(execOp a.eval o).run P w= .ok i w'∧(i= .value cv∨(i= .skip∧cv=undef))∧iP B (st.ups ups) w' r M'∧Tr st w β M (st.ups ups) w' r M'∧w.heap.size≤w'.heap.size∧gW r (st.ups ups).gens w' M' v cv
section
variable{P:Program}{B:lS}{st:St}{a:Act}{w:World}{β:iJ}{M:im}{o:Oper}{v:T}{ups:List Up}
theorem iL(h:iP B st w β M){cv:Value}(i:(execOp a.eval o).run P w= .ok (.value cv) w)(r:gW β st.gens w M v cv):lz P B st a w β M o v []:=
 ⟨_,cv,w,β,M,i,.inl rfl,h,Tr.refl _ _ _ _,Nat.le_refl _,r⟩
variable(kY:qH β st.gens w M st.rho a.eval)(h:iP B st w β M)
include kY h
theorem af2{x:Operand}{y:iz}(ho:o.op= .move x∨o.op= .assign x)(i:lP x=some y):lz P B st a w β M o (st.rho y) []:=
 iL h (cv:=a.eval x) (by rcases ho with ho|ho <;> simp[execOp,ho]) (kY x y i)
theorem aax{c x y:Operand}{r C D:iz}(F:o.op= .pick c x y)(H:lP c=some r)(I:lP x=some C)(J:lP y=some D){E:Bool}(K:st.rho r= .b E):
  lz P B st a w β M o (st.rho (if E then C else D)) []:=by
 have i:=kY c r H
 rw[K]at i;simp only[gW]at i
 cases E
 ·exact iL h (cv:=a.eval y) (by simp[execOp,F,i,asBool]) (kY y D J)
 ·exact iL h (cv:=a.eval x) (by simp[execOp,F,i,asBool]) (kY x C I)
theorem ahM{d E:Nat}{x:Operand}{y:iz}(C:o.op= .nilCheck x)(F:lP x=some y){v:T}(r:(jf d st.rho (.nck y)).run st.get E=some (.val v ups)):lz P B st a w β M o v ups:=by
 have i:=kY x y F
 simp only[jf]at r
 split at r <;> simp[Q.run]at r <;> obtain⟨rfl,rfl⟩:=r <;> rename_i e
 ·rw[e]at i
  refine iL h (cv:=a.eval x) ?_ i
  simp only[gW,PRel]at i
  obtain⟨H,off,D,_⟩:=i
  simp[execOp,C,D]
 ·rw[e]at i
  refine iL h (cv:=a.eval x) ?_ i
  simp only[gW]at i
  simp[execOp,C,i.2]
 ·rw[e]at i
  refine iL h (cv:=a.eval x) ?_ i
  simp only[gW]at i
  obtain⟨I,J,D,_⟩:=i
  simp[execOp,C,D]
end
end Go.Ev
namespace Go.Ev
open Go
theorem OQ(k:IntKind)(n:Int):wr k n=k.wrap n:=by
 unfold wr
 split
 ·rename_i h
  cases k <;> simp only[lo,hi]at h <;> simp[IntKind.wrap,IntKind.bits,IntKind.signed] <;> omega
 ·rfl
theorem kC(x:ByteArray):jT x=x.toList.map UInt8.toNat:=by rw[ByteArray.toList_eq];rfl
theorem mV: ∀(a b:List UInt8),(a.map UInt8.toNat==b.map UInt8.toNat)=(a==b)
 | [],[]=>rfl
 | [],_::_=>rfl
 |_::_,[]=>rfl
 |x::xs,y::i=>by
  simp only[List.map_cons,List.cons_beq_cons,mV xs i]
  congr 1
  rw[Bool.eq_iff_iff];simp[UInt8.toNat_inj]
theorem JW: ∀(a b:List UInt8),lG (a.map UInt8.toNat) (b.map UInt8.toNat)=Op.bytesLess a b
 | [],[]=>rfl
 | [],_::_=>rfl
 |_::_,[]=>rfl
 |x::xs,y::i=>by
  simp only[List.map_cons,lG,Op.bytesLess,JW xs i]
  have r:decide (x.toNat<y.toNat)=decide (x<y):=by rw[Bool.eq_iff_iff];simp[UInt8.lt_iff_toNat_lt]
  have C:(x.toNat==y.toNat)=(x==y):=by rw[Bool.eq_iff_iff];simp[UInt8.toNat_inj]
  rw[r,C]
theorem mC(x:ByteArray):(jT x).length=x.size:=by
 unfold jT;rw[List.length_map,Array.length_toList];rfl
theorem Fw(x y:ByteArray):jT (x++y)=jT x++jT y:=by simp[jT,ByteArray.data_append]
section
variable{P:Program}{B:lS}{st:St}{a:Act}{w:World}{β:iJ}{M:im}{o:Oper}{v:T}{ups:List Up}
theorem gW.int{k:IntKind}{n:Int}{cv:Value}{G:Sp→Nat→Nat}(h:gW β G w M (.i k n) cv):cv= .int k n:=by grind [gW]
theorem gW.str{l:List Nat}{cv:Value}{G:Sp→Nat→Nat}(h:gW β G w M (.s l) cv): ∃i,cv= .string i∧jT i=l:=by grind [gW]
theorem gW.bool{x:Bool}{cv:Value}{G:Sp→Nat→Nat}(h:gW β G w M (.b x) cv):cv= .bool x:=by grind [gW]
theorem aay{op:BinOp}{k:IntKind}{x y:Int}{t:TypeId}{r:T}(h:th op k x y=some r)(hs:op≠ .shl∧op≠ .shr): ∃cv,(binOp op t (.int k x) (.int k y)).run P w= .ok cv w∧ ∀G,gW β G w M r cv:=by
 cases op <;> simp only[th,Option.some.injEq]at h <;> try (subst h)
 all_goals first
  |exact absurd rfl hs.1
  |exact absurd rfl hs.2
  |skip
 case quo=>
  split at h
  ·cases h
  ·rename_i i
   simp at h;subst h
   exact⟨_,by simp[binOp,Op.intDiv,i];rfl,fun G=>by simp[gW,OQ]⟩
 case rem=>
  split at h
  ·cases h
  ·rename_i i
   simp at h;subst h
   exact⟨_,by simp[binOp,Op.intDiv,i];rfl,fun G=>by simp[gW]⟩
 all_goals first
  |exact⟨_,by simp[binOp,Op.intArith,Op.intBits,Op.intCmp];rfl,fun G=>by simp[gW,OQ]⟩
  |cases h
theorem Gs{op:BinOp}{k k':IntKind}{x y:Int}{t:TypeId}{r:T}(h:Dv op k x y=some r): ∃cv,(binOp op t (.int k x) (.int k' y)).run P w= .ok cv w∧ ∀G,gW β G w M r cv:=by
 unfold Dv at h
 split at h
 ·cases h
 ·rename_i i
  cases op <;> simp at h <;> subst h
  ·exact⟨_,by simp[binOp,Op.shift,i];rfl,fun G=>by simp[gW]⟩
  ·exact⟨_,by simp[binOp,Op.shift,i];rfl,fun G=>by simp[gW]⟩
theorem aaz{op:BinOp}{x y:ByteArray}{t:TypeId}{r:T}(h:Re op (jT x) (jT y)=some r): ∃cv,(binOp op t (.string x) (.string y)).run P w= .ok cv w∧ ∀G,gW β G w M r cv:=by
 have i:(jT x==jT y)=(x.toList==y.toList):=by rw[kC,kC,mV]
 have C:lG (jT x) (jT y)=Op.bytesLess x.toList y.toList:=by rw[kC,kC,JW]
 have D:(jT x != jT y)= !(x.toList==y.toList):=by rw[bne,i]
 cases op <;> simp only[Re]at h <;> try (cases h;done)
 case add=>
  split at h
  ·rename_i E
   simp at h;subst h
   rw[mC,mC]at E
   have: ¬(((x.size+y.size:Nat):Int)>IntKind.i64.max):=by simp[IntKind.max,IntKind.signed,IntKind.bits];omega
   exact⟨.string (x++y),by simp only[binOp,Op.stringOp,this,if_false];rfl,fun G=>by simp only[gW];exact⟨_,rfl,Fw x y⟩⟩
  ·cases h
 all_goals
  simp only[Option.some.injEq]at h
  subst h
  refine⟨_,by simp only[binOp,Op.stringOp];rfl,fun G=> ?_⟩
  simp only[gW,i,C,D]
variable(kY:qH β st.gens w M st.rho a.eval)(h:iP B st w β M)
include kY h
theorem ahN{op:BinOp}{t U:TypeId}{x y:Operand}{F H:iz}(I:o.op= .binOp op t x y U)(V:lP x=some F)(W:lP y=some H)(i:Ev.bin op (st.rho F) (st.rho H)=some v):lz P B st a w β M o v []:=by
 have J:=kY x F V
 have K:=kY y H W
 generalize st.rho F=tx at*
 generalize st.rho H=ty at*
 have Mw: ∀k k' m n,(eqGuard op t x y (.int k m) (.int k' n)).run P w= .ok () w:=by intro k k' m n;cases op <;> simp[eqGuard]
 have N: ∀m n,(eqGuard op t x y (.string m) (.string n)).run P w= .ok () w:=by intro m n;cases op <;> simp[eqGuard]
 unfold Ev.bin at i
 split at i
 ·rename_i X a1 O Y
  have r:=J.int;have C:=K.int
  obtain⟨cv,D,E⟩:=Gs (P:=P) (w:=w) (β:=β) (M:=M) (t:=t) (k':=O) i
  exact iL h (cv:=cv) (by simp[execOp,I,r,C,Mw,D]) (E _)
 ·rename_i X a1 O Y
  have r:=J.int;have C:=K.int
  obtain⟨cv,D,E⟩:=Gs (P:=P) (w:=w) (β:=β) (M:=M) (t:=t) (k':=O) i
  exact iL h (cv:=cv) (by simp[execOp,I,r,C,Mw,D]) (E _)
 ·rename_i Z yk
  split at i
  ·rename_i hk
   subst hk
   have r:=J.int;have C:=K.int
   obtain⟨cv,D,E⟩:=aay (P:=P) (w:=w) (β:=β) (M:=M) (t:=t) i ⟨fun e=>Z e,fun e=>yk e⟩
   exact iL h (cv:=cv) (by simp[execOp,I,r,C,Mw,D]) (E _)
  ·cases i
 ·obtain⟨bx,r,rfl⟩:=J.str
  obtain⟨bY,C,rfl⟩:=K.str
  obtain⟨cv,D,E⟩:=aaz (P:=P) (w:=w) (β:=β) (M:=M) (t:=t) i
  exact iL h (cv:=cv) (by simp[execOp,I,r,C,N,D]) (E _)
 ·cases i
theorem ap5{op:UnOp}{t:TypeId}{x:Operand}{r:iz}(C:o.op= .unOp op t x)(E:lP x=some r)(i:Ev.un op (st.rho r)=some v):lz P B st a w β M o v []:=by
 have D:=kY x r E
 generalize st.rho r=tx at*
 unfold Ev.un at i
 split at i
 ·simp at i;subst i
  exact iL h (cv:=_) (by simp[execOp,C,D.int,Op.unary,Op.intArith];rfl) (by simp[gW,OQ])
 ·simp at i;subst i
  exact iL h (cv:=_) (by simp[execOp,C,D.bool,Op.unary];rfl) (by simp only[gW])
 ·rename_i k n
  simp only[th,Option.some.injEq]at i;subst i
  exact iL h (cv:= .int k (k.wrap (BitVec.ofInt k.bits (if k.signed then-1 else k.max) ^^^ BitVec.ofInt k.bits n).toNat)) (by simp only[execOp,C,D.int,Op.unary,Op.intBits];rfl) (by simp only[gW])
 ·cases i
theorem ahP{s t:TypeId}{k:IntKind}{x:Operand}{r:iz}(D:o.op= .convert s t x)(E:lP x=some r)(hs: ∃k',P.underlying s=some (.int k'))(F:P.underlying t=some (.int k)){k':IntKind}{n:Int}(H:st.rho r= .i k' n):
  lz P B st a w β M o (.i k (wr k n)) []:=by
 have C:=kY x r E
 rw[H]at C
 obtain⟨ks,hs⟩:=hs
 exact iL h (cv:= .int k (k.wrap n)) (by simp[execOp,D,C.int,convert,run_underlying hs,run_underlying F,Conv.intToInt]) (by simp only[gW,OQ])
omit h in
theorem xt: ∀{xs:List Operand} {i:List iz},Bf xs=some i→gY β st.gens w M (i.map st.rho) (xs.map a.eval)
 | [],i,h=>by grind [Bf,gY]
 |x::xs,i,h=>by
  simp only[Bf]at h
  split at h
  ·rename_i y r C D
   simp at h;subst h
   simp only[List.map_cons,gY]
   exact⟨_,_,rfl,kY x y C,xt D⟩
  ·cases h
theorem aaA{f:FuncId}{first i:Array Operand}{r cs:List iz}(C:o.op= .makeFunc (.func f) first i)(D:Bf first.toList=some r)(E:Bf i.toList=some cs):
  lz P B st a w β M o (.fn f (r.map st.rho) (cs.map st.rho)) []:=
 iL h (cv:= .func (.func f) (first.map a.eval) (i.map a.eval)) (by simp[execOp,C,Instr.makeFunc]) (by
  simp only[gW]
  exact⟨_,_,rfl,by simpa using xt kY D,by simpa using xt kY E⟩)
theorem ahQ{x:Operand}{i:iz}{j:Nat}(F:o.op= .extract x j)(H:lP x=some i){E:List T}(I:st.rho i= .tup E)(J:E[j]? =some v):lz P B st a w β M o v []:=by
 have r:=kY x i H
 rw[I]at r
 simp only[gW]at r
 obtain⟨C,e,K⟩:=r
 obtain⟨cv,N,O⟩:=K.get J
 have D:C[j]? =some cv:=by simpa using N
 exact iL h (cv:=cv) (by simp[execOp,F,e,Instr.extract,D]) O
end
end Go.Ev
namespace Go.Ev
open Go
theorem nn{P:Program}{t:TypeId}{n:Nat}(h:lH P t=some n)(w:World):(sizeOf t).run P w= .ok n w:=by
 unfold lH at h
 cases hi:P.info? t with
 |none=>simp[hi]at h
 |some i=>simp[hi]at h;simp[sizeOf,typeInfo,hi,h]
theorem wA{P:Program}{t:TypeId}{r:Bool}(h:xW P t=some r)(w:World):(isAgg t).run P w= .ok r w:=by
 unfold xW at h
 cases i:P.underlying t with
 |none=>simp[i]at h
 |some d=>
  simp only[i,Option.map_some,Option.some.injEq]at h
  unfold isAgg
  simp only[Sem.run_bind,run_underlying i,Result.andThen_ok]
  cases d <;> simp at h <;> subst h <;> rfl
theorem JX{P:Program}{β:iJ}{G:Sp→Nat→Nat}{w:World}{M:im}{t:TypeId}{off n:Nat}{r:Bool}{cs:List T}{i:Array Value}{v:T}(D:lH P t=some n)(E:xW P t=some r)
  (C:gY β G w M cs i.toList) (hs:cs.all single=true) (h:Ev.part cs off n r=some v): ∃cv,(Go.part t i off).run P w= .ok cv w∧gW β G w M v cv:=by
 unfold Ev.part at h
 unfold Go.part
 simp only[Sem.run_bind,wA E,Result.andThen_ok]
 cases r with
 |true=>
  simp only[if_true]at h ⊢
  split at h
  ·rename_i F
   simp at h;subst h
   refine⟨.agg (i.extract off (off+n)),by simp[nn D], ?_⟩
   simp only[gW]
   refine⟨_,rfl, ?_,nN hs _ _⟩
   have:=gY.take n (gY.drop off C)
   grind [Array.toList_extract,List.extract_eq_take_drop]
  ·cases h
 |false=>
  simp only[Bool.false_eq_true,if_false]at h ⊢
  obtain⟨cv,H,I⟩:=C.get h
  simp_all
theorem ll(b o n:Nat):(⟨b,o,none⟩:Addr).add n=⟨b,o+n,none⟩:=by grind [Addr.add]
theorem iH.drop{w:World}{M:im}{i:Nat}: ∀{off:Nat} {ts:List T} (n:Nat),iH w M i off ts→n≤ts.length→iH w M i (off+n) (ts.drop n)
 |off,ts,0,h,_=>by simpa using h
 |off,[],n+1,h,r=>by simp at r
 |off,c::cs,n+1,h,r=>by
  simp only[iH]at h
  have:=iH.drop n h.2 (by simpa using r)
  grind
theorem iH.take{w:World}{M:im}{i:Nat}: ∀{off:Nat} {ts:List T} (n:Nat),iH w M i off ts→iH w M i off (ts.take n)
 |off,ts,0,h=>by simp[iH]
 |off,[],n+1,h=>by simp[iH]
 |off,c::cs,n+1,h=>by
  simp only[iH]at h
  simp only[List.take_succ_cons,iH]
  exact⟨h.1,iH.take n h.2⟩
theorem iH.load{P:Program}{w:World}{M:im}{i:Nat}: ∀{off:Nat} {ts:List T},iH w M i off ts→ ∃r:List Value,r.length=ts.length∧(∀j v,r[j]? =some v→w.cell? ⟨i,off+j,none⟩=some v)∧PList w M ts r∧ts.all single=true
 |off,[],h=>⟨[],rfl,by simp,by simp[PList],rfl⟩
 |off,c::cs,h=>by
  simp only[iH]at h
  obtain⟨⟨v,H,_,I,C⟩,D⟩:=h
  obtain⟨r,E,J,K,F⟩:=iH.load (P:=P) D
  refine⟨v::r,by simp[E],fun j u N=> ?_, ?_,by simp[C,F]⟩
  ·grind
  ·grind [PList]
theorem JY{P:Program}{β:iJ}{G:Sp→Nat→Nat}{w:World}{M:im}{t:TypeId}{n:Nat}{C:Bool}{i off o:Nat}{cs:List T}{r:List Value}{v:T}(H:lH P t=some n)(I:xW P t=some C)
  (N: ∀j u,r[j]? =some u→w.cell? ⟨i,off+j,none⟩=some u) (D:gY β G w M cs r) (hs:cs.all single=true) (h:Ev.part cs o n C=some v):
  ∃cv,(loadVar t ⟨i,off+o,none⟩).run P w= .ok cv w∧gW β G w M v cv:=by
 unfold Ev.part at h
 unfold loadVar
 simp only[Sem.run_bind,wA I,Result.andThen_ok]
 cases C with
 |true=>
  simp only[if_true]at h ⊢
  split at h
  ·rename_i J
   simp at h;subst h
   have F:=gY.length _ _ D
   have K:((r.drop o).take n).length=n:=by simp;omega
   have:=run_loadCells_list (P:=P) w ⟨i,off+o,none⟩ ((r.drop o).take n) (fun j u E=>by
    rw[ll]
    rw[List.getElem?_take]at E
    split at E
    ·grind
    ·cases E)
   rw[K]at this
   refine⟨.agg ((r.drop o).take n).toArray,by simp[nn H,this], ?_⟩
   simp only[gW]
   exact⟨_,rfl,by simpa using gY.take n (gY.drop o D),nN hs _ _⟩
  ·cases h
 |false=>
  simp only[Bool.false_eq_true,if_false]at h ⊢
  obtain⟨cv,O,U⟩:=D.get h
  grind [Go.load,Sem.run]
section
variable{P:Program}{B:lS}{st:St}{a:Act}{w:World}{β:iJ}{M:im}{o:Oper}{v:T}{ups:List Up}
variable(kY:qH β st.gens w M st.rho a.eval)(h:iP B st w β M)
include h
theorem JZ{t:TypeId}{n X:Nat}{D:Bool}{x:T}{cx:Value}(H:lH P t=some n)(I:xW P t=some D)(E:gW β st.gens w M x cx)(i:(HH x n D).run st.get X=some v):
  ∃J cv,cx= .pointer (some J)∧(loadVar t J).run P w= .ok cv w∧gW β st.gens w M v cv:=by
 unfold HH at i
 split at i
 ·rename_i cs
  simp only[gW,PRel]at E
  obtain⟨Y,off,rfl,Z⟩:=E
  obtain⟨vs,_,e2,e3,e4⟩:=iH.load (P:=P) Z
  cases r:Ev.part cs 0 n D with
  |none=>simp[r,Q.of,Q.run]at i
  |some v'=>
   simp[r,Q.of,Q.run]at i;subst i
   obtain⟨cv,K,N⟩:=JY (P:=P) (β:=β) (G:=st.gens) (M:=M) H I e2 (PList.toV _ _ _ _ e3) e4 r
   grind
 ·rename_i sp k g off
  simp only[Q.run]at i
  split at i
  ·rename_i O
   have U:=h.obj sp k
   generalize he:st.get sp k=e at*
   obtain⟨F,ob⟩:=e
   dsimp only at O;subst O
   cases ob with
   |none=>simp[Q.run]at i
   |map _ _ _=>simp[Q.run]at i
   |cells cs wm bx=>
    dsimp only at i
    cases r:Ev.part cs off n D with
    |none=>simp[r,Q.of,Q.run]at i
    |some v'=>
     simp[r,Q.of,Q.run]at i;subst i
     unfold kQ at U
     obtain⟨c,el,fz,V,h2,h3,h4,W,h6,h7⟩:=U
     dsimp only at V h2 h3 W
     have OR:gY β st.gens w M cs ((c.toList.drop (β sp k F).off).take cs.length):=by
      exact W.toV
     simp only[gW]at E
     obtain⟨_,rfl⟩:=E
     have VO: ∀j u,((c.toList.drop (β sp k F).off).take cs.length)[j]? =some u→w.cell? ⟨(β sp k F).blk,(β sp k F).off+j,none⟩=some u:=by
      intro j u C
      rw[List.getElem?_take]at C
      split at C
      ·rw[List.getElem?_drop]at C
       unfold World.cell?;rw[V];simpa using C
      ·cases C
     obtain⟨cv,K,N⟩:=JY (P:=P) H I VO OR h7.1 r
     exact⟨_,cv,rfl,K,N⟩
  ·simp[Q.run]at i
 ·simp[Q.run]at i
include kY
theorem ap6{d E:Nat}{t:TypeId}{x:Operand}{i:iz}{n:Nat}{C:Bool}(F:o.op= .load t x)(H:lP x=some i)(I:lH P t=some n)(J:xW P t=some C)
  (r:(jf d st.rho (.ld i n C)).run st.get E=some (.val v ups)):lz P B st a w β M o v ups:=by
 simp only[jf,Q.run_bind]at r
 cases D:(HH (st.rho i) n C).run st.get E with
 |none=>simp[D]at r
 |some O=>
  simp[D,Q.run]at r
  obtain⟨rfl,rfl⟩:=r
  obtain⟨U,cv,e,K,N⟩:=JZ (P:=P) h I J (kY x i H) D
  exact iL h (cv:=cv) (by simp[execOp,F,e,Instr.loadAt,Instr.sureAddr,K]) N
theorem ap7{d J:Nat}{s:TypeId}{x:Operand}{D:iz}{f n:Nat}{I:Array Field}{C:Field}(K:o.op= .fieldAddr s x f)(N:lP x=some D)(hs:P.underlying s=some (.struct I))(O:I[f]? =some C)(U:lH P C.type=some n)(V:n≠0)
  (r:(jf d st.rho (.fa D C.offset)).run st.get J=some (.val v ups)):lz P B st a w β M o v ups:=by
 have E:=kY x D N
 have F: ∀i off,a.eval x= .pointer (some ⟨i,off,none⟩)→(execOp a.eval o).run P w= .ok (.value (.pointer (some ⟨i,off+C.offset,none⟩))) w:=by
  intro i off e
  simp[execOp,K,e,Instr.fieldAt,run_underlying hs,O,Instr.sureAddr,fieldPlace,nn U,V,ll]
 simp only[jf]at r
 split at r
 ·rename_i cs e
  split at r
  ·rename_i H
   simp[Q.run]at r;obtain⟨rfl,rfl⟩:=r
   rw[e]at E
   simp only[gW,PRel]at E
   obtain⟨i,off,W,X⟩:=E
   refine iL h (F i off W) ?_
   simp only[gW,PRel]
   exact⟨i,_,rfl,iH.drop _ X H⟩
  ·simp[Q.run]at r
 ·grind [Q.run,gW,Nat.add_assoc,iL]
 ·simp[Q.run]at r
theorem ahS{d I:Nat}{s:TypeId}{x:Operand}{C:iz}{f n:Nat}{D:Bool}{H:Array Field}{r:Field}(J:o.op= .field s x f)(K:lP x=some C)(hs:P.underlying s=some (.struct H))(N:H[f]? =some r)(O:lH P r.type=some n)(U:xW P r.type=some D)
  (i:(jf d st.rho (.fld C r.offset n D)).run st.get I=some (.val v ups)):lz P B st a w β M o v ups:=by
 have E:=kY x C K
 simp only[jf]at i
 split at i
 ·rename_i cs e
  rw[e]at E
  simp only[gW]at E
  obtain⟨V,W,X,Y⟩:=E
  cases F:Ev.part cs r.offset n D with
  |none=>simp[F,Ev.val,Q.run]at i
  |some v'=>
   simp[F,Ev.val,Q.run]at i;obtain⟨rfl,rfl⟩:=i
   obtain⟨cv,Z,r2⟩:=JX (P:=P) O U X Y F
   exact iL h (cv:=cv) (by simp[execOp,J,W,Instr.field,run_underlying hs,N,asAgg,Z]) r2
 ·simp[Q.run]at i
theorem ahT{d K:Nat}{t e:TypeId}{x j:Operand}{C D:iz}{len n:Nat}{E:Bool}(N:o.op= .index t x j)(O:lP x=some C)(U:lP j=some D)(V:P.underlying t=some (.array len e))(I:lH P e=some n)(W:xW P e=some E)
  (i:(jf d st.rho (.ixA C D len n E)).run st.get K=some (.val v ups)):lz P B st a w β M o v ups:=by
 have F:=kY x C O
 have J:=kY j D U
 simp only[jf]at i
 split at i
 ·rename_i X cs r Y
  rw[Y]at F
  simp only[gW]at F
  obtain⟨Z,e3,hl,rE⟩:=F
  split at i
  ·rename_i lB
   cases H:Ev.part cs (X*n) n E with
   |none=>simp[H,Ev.val,Q.run]at i
   |some v'=>
    simp[H,Ev.val,Q.run]at i;obtain⟨rfl,rfl⟩:=i
    unfold asNat at r
    split at r
    ·rename_i k m em
     split at r
     ·rename_i hm
      simp at r;subst r
      rw[em]at J
      have ej:=J.int
      obtain⟨cv,r1,r2⟩:=JX (P:=P) I W hl rE H
      have:0≤m∧m<(len:Int):=by omega
      exact iL h (cv:=cv) (by simp[execOp,N,e3,ej,Instr.index,run_underlying V,asIntOf,this,nn I,r1]) r2
     ·cases r
    ·cases r
  ·simp[Q.run]at i
 ·simp[Q.run]at i
omit h kY in
theorem oe{t:T}{n:Nat}(e:asNat t=some n): ∃k m,t= .i k m∧0≤m∧m.toNat=n:=by
 unfold asNat at e
 grind
theorem ahU{d I:Nat}{t:TypeId}{x j:Operand}{C D:iz}(J:o.op= .index t x j)(K:lP x=some C)(N:lP j=some D)(O:P.underlying t=some .string)
  (r:(jf d st.rho (.ixS C D)).run st.get I=some (.val v ups)):lz P B st a w β M o v ups:=by
 have F:=kY x C K
 have H:=kY j D N
 simp only[jf]at r
 split at r
 ·rename_i jn bs U V
  rw[V]at F
  obtain⟨i,W,rfl⟩:=F.str
  obtain⟨k,m,X,Y,rfl⟩:=oe U
  rw[X]at H
  have Z:=H.int
  split at r
  ·rename_i c E
   simp[Q.run]at r;obtain⟨rfl,rfl⟩:=r
   unfold jT at E
   rw[List.getElem?_map,Option.map_eq_some_iff]at E
   obtain⟨u,hu,rfl⟩:=E
   have Mx:i[m.toNat]? =some u:=by
    have:i.data[m.toNat]? =some u:=by simpa using hu
    have lB:=(Array.getElem?_eq_some_iff.1 this).1
    have:i.data[m.toNat]=u:=(Array.getElem?_eq_some_iff.1 this).2
    show(if h:m.toNat<i.size then some i[m.toNat]else none)=some u
    have zP:m.toNat<i.size:=lB
    rw[dif_pos zP];exact congrArg some this
   exact iL h (cv:= .int .u8 u.toNat) (by simp[execOp,J,W,Z,Instr.index,run_underlying O,asIntOf,Y,Mx]) (by simp only[gW])
  ·simp[Q.run]at r
 ·simp[Q.run]at r
theorem ap8{d O:Nat}{t e:TypeId}{x j:Operand}{E F:iz}{n:Nat}(U:o.op= .indexAddr t x j)(V:lP x=some E)(W:lP j=some F)(X:P.underlying t=some (.slice e))(Y:lH P e=some n)
  (r:(jf d st.rho (.ia E F n)).run st.get O=some (.val v ups)):lz P B st a w β M o v ups:=by
 have H:=kY x E V
 have N:=kY j F W
 have I: ∀(i off len C:Nat) k (m:Int),a.eval x= .slice (some ⟨i,off,none⟩) len C→a.eval j= .int k m→0≤m→m.toNat<len→(execOp a.eval o).run P w= .ok (.value (.pointer (some ⟨i,off+m.toNat*n,none⟩))) w:=by
  intro i off len C k m J K Z h2
  have:0≤m∧m<(len:Int):=by omega
  simp[execOp,U,J,K,Instr.indexAt,run_underlying X,asIntOf,this,nn Y,ll]
 simp only[jf]at r
 split at r
 ·rename_i jn cs len ex J K
  split at r
  ·rename_i D
   simp[Q.run]at r;obtain⟨rfl,rfl⟩:=r
   simp at D
   obtain⟨k,m,em,hm,rfl⟩:=oe J
   rw[K]at H;rw[em]at N
   simp only[gW,PRel]at H
   obtain⟨i,off,C,sp,e3,Z,h2,h5,h3⟩:=H
   obtain rfl:sp=none:=h5.resolve_right (by have:=D.1;omega)
   refine iL h (I _ _ _ _ _ _ e3 N.int hm D.1) ?_
   simp only[gW,PRel]
   exact⟨_,_,rfl,iH.drop _ h3 (by have:=D.2;rw[Nat.add_mul]at this;omega)⟩
  ·simp[Q.run]at r
 ·grind [Q.run,gW,Nat.add_assoc,oe,iL]
 ·simp[Q.run]at r
theorem ahV{d N:Nat}{t e:TypeId}{x j:Operand}{C D:iz}{len n:Nat}(O:o.op= .indexAddr t x j)(U:lP x=some C)(V:lP j=some D)(W:P.underlying t=some (.array len e))(X:lH P e=some n)
  (r:(jf d st.rho (.iaA C D len n)).run st.get N=some (.val v ups)):lz P B st a w β M o v ups:=by
 have E:=kY x C U
 have K:=kY j D V
 have F: ∀(i off:Nat) k (m:Int),a.eval x= .pointer (some ⟨i,off,none⟩)→a.eval j= .int k m→0≤m→m.toNat<len→(execOp a.eval o).run P w= .ok (.value (.pointer (some ⟨i,off+m.toNat*n,none⟩))) w:=by
  intro i off k m H I h1 h2
  have:0≤m∧m<(len:Int):=by omega
  simp[execOp,O,H,I,Instr.indexAt,run_underlying W,asIntOf,Instr.sureAddr,this,nn X,ll]
 simp only[jf]at r
 split at r
 ·rename_i jn cs H I
  split at r
  ·rename_i J
   simp[Q.run]at r;obtain⟨rfl,rfl⟩:=r
   simp at J
   obtain⟨k,m,Y,Z,rfl⟩:=oe H
   rw[I]at E;rw[Y]at K
   simp only[gW,PRel]at E
   obtain⟨i,off,e3,h3⟩:=E
   refine iL h (F _ _ _ _ e3 K.int Z J.1) ?_
   simp only[gW,PRel]
   exact⟨_,_,rfl,iH.drop _ h3 (by have:=J.2;rw[Nat.add_mul]at this;omega)⟩
  ·simp[Q.run]at r
 ·grind [Q.run,gW,Nat.add_assoc,oe,iL]
 ·simp[Q.run]at r
end
end Go.Ev
namespace Go.Ev
open Go
theorem DF(s:ByteArray)(l h:Nat):jT (s.extract l h)=((jT s).drop l).take (h-l):=by
 unfold jT
 simp_all
theorem ln{P:Program}{w:World}{k:IntKind}{m:Int}{y:Nat}{code:BoundsCode}(i:0≤m)(r:m.toNat≤y):(Instr.sliceBound (.int k m) y code).run P w= .ok m.toNat w:=by
 have:0≤m∧m≤(y:Int):=by omega
 simp[Instr.sliceBound,asIntOf,this]
section
variable{P:Program}{B:lS}{st:St}{a:Act}{w:World}{β:iJ}{M:im}{o:Oper}{v:T}{ups:List Up}
variable(kY:qH β st.gens w M st.rho a.eval)(h:iP B st w β M)
include kY in
theorem xu{x:Option Operand}{r:Option iz}{i n:Nat}(C:vU x=some r)(e:kG st.rho i r=some n):
  (x=none∧r=none∧n=i)∨ ∃y k m,x=some y∧a.eval y= .int k m∧0≤m∧m.toNat=n:=by
 cases x with
 |none=>grind [vU,kG]
 |some y=>
  simp only[vU,Option.map_eq_some_iff]at C
  obtain⟨D,E,rfl⟩:=C
  simp only[kG]at e
  obtain⟨k,m,F,H,I⟩:=oe e
  have:=kY y D E
  rw[F]at this
  exact .inr ⟨y,k,m,rfl,this.int,H,I⟩
include kY in
theorem vM{lo hi:Option Operand}{r Jg:Option iz}{isS:Bool}{len i l D:Nat}(H:vU lo=some r)(I:vU hi=some Jg)(J:kG st.rho 0 r=some l)(K:kG st.rho len Jg=some D)
  (E:l≤D) (F:D≤len) (C:len≤i):(Instr.sliceBounds isS len i (lo.map a.eval) (hi.map a.eval) none).run P w= .ok (l,D,i) w:=by
 unfold Instr.sliceBounds
 rcases xu kY H J with⟨rfl,rfl,rfl⟩|⟨y,k,m,rfl,ey,hm,rfl⟩ <;> rcases xu kY I K with⟨rfl,rfl,rfl⟩|⟨y2,k2,m2,rfl,ey2,hm2,rfl⟩
 ·simp
 ·simp[ey2,ln hm2 (Nat.le_trans F C)]
 ·simp[ey,ln hm E]
 ·simp[ey,ey2,ln hm2 (Nat.le_trans F C),ln hm E]
include kY h
theorem ahW{d I:Nat}{t:TypeId}{x:Operand}{D:iz}{lo hi:Option Operand}{r Jg:Option iz}(J:o.op= .slice t x lo hi none)(K:lP x=some D)(N:vU lo=some r)(O:vU hi=some Jg)(U:P.underlying t=some .string)
  (i:(jf d st.rho (.slS D r Jg)).run st.get I=some (.val v ups)):lz P B st a w β M o v ups:=by
 have E:=kY x D K
 simp only[jf]at i
 split at i
 ·rename_i Y e
  rw[e]at E
  obtain⟨s,V,rfl⟩:=E.str
  split at i
  ·rename_i l F W H
   split at i
   ·rename_i C
    simp at C
    simp[Q.run]at i;obtain⟨rfl,rfl⟩:=i
    rw[mC]at H C
    have X:=vM (P:=P) (w:=w) (isS:=false) kY N O W H C.1 C.2 (Nat.le_refl _)
    refine iL h (cv:= .string (s.extract l F)) ?_ (by simp only[gW];exact⟨_,rfl,DF s l F⟩)
    simp[execOp,J,V,Instr.sliceAt,run_underlying U,Instr.slice,X]
   ·simp[Q.run]at i
  ·simp[Q.run]at i
 ·simp[Q.run]at i
theorem ahX{d nx:Nat}{t e:TypeId}{n:Nat}{x:Operand}{V:iz}{lo hi mx:Option Operand}{N Jg W:Option iz}(ho:o.op= .slice t x lo hi mx)(hx:lP x=some V)(h1:vU lo=some N)(h2:vU hi=some Jg)(h3:vU mx=some W)
  (ht:P.underlying t=some (.slice e)) (hn:lH P e=some n) (h0:n≠0) (ZP:mx.isSome=true→hi.isSome=true)
  (D:(jf d st.rho (.slV n V N Jg W)).run st.get nx=some (.val v ups)):lz P B st a w β M o v ups:=by
 have E:=kY x V hx
 simp only[jf]at D
 cases r:tC (st.rho V)with
 |none=>grind [Q.run]
 |some len=>
  simp only[r]at D
  cases X:kG st.rho 0 N with
  |none=>simp[X,Q.run]at D
  |some l=>
   cases e2:kG st.rho len Jg with
   |none=>grind [Q.run]
   |some K=>
    cases mx with
    |none=>
     simp[vU]at h3;subst h3
     simp only[X,e2,Q.run_bind]at D
     have F: ∀(H:Option Addr) i,a.eval x= .slice H len i→l≤K→K≤len→len≤i→
       (execOp a.eval o).run P w= .ok (.value (.slice (if i=l then H else H.map (·.add (l*n))) (K-l) (i-l))) w:=by
      intro H i ex L1 Tn hl3
      have hb:=vM (P:=P) (w:=w) (isS:=true) kY h1 h2 X e2 L1 Tn hl3
      simp[execOp,ho,ex,Instr.sliceAt,run_underlying ht,Instr.slice,hb,nn hn]
     cases hs:(B0 n (st.rho V) l K).run st.get nx with
     |none=>simp[hs]at D
     |some v'=>
      simp[hs,Q.run]at D;obtain⟨rfl,rfl⟩:=D
      unfold B0 at hs
      split at hs
      ·grind [Q.run,tC,gW,iL]
      ·rename_i cs VQ ex' ex
       rw[ex]at E r
       simp[tC]at r;subst r
       split at hs
       ·rename_i I
        simp[Q.run]at hs;subst hs
        simp at I
        obtain⟨⟨c1,c2⟩,c3⟩:=I
        simp only[gW,PRel]at E
        obtain⟨C,off,i,sp,J,p1,p2,p4,p3⟩:=E
        refine iL h (F _ _ J c1 c2 p1) ?_
        simp only[gW,PRel]
        by_cases Bh:i=l
        ·rw[if_pos Bh]
         have:K=l:=by omega
         subst this
         refine⟨C,off,i-K,sp,by simp,by omega,fun O=>by omega,.inr (by omega), ?_⟩
         simp[iH]
        ·rw[if_neg Bh]
         obtain rfl:sp=none:=p4.resolve_right (by omega)
         refine⟨C,off+l*n,i-l,none,by simp[ll],by omega,fun O=> ?_,.inl rfl, ?_⟩
         ·simp at O
          have:=p2 O.1
          omega
         ·refine iH.take _ (iH.drop _ p3 ?_)
          rw[c3];exact Nat.mul_le_mul_right n (Nat.le_trans c1 c2)
       ·simp[Q.run]at hs
      ·rename_i sp k g off VQ sz ex
       rw[ex]at E r
       simp[tC]at r;subst r
       split at hs
       ·rename_i I
        simp[Q.run]at hs;subst hs
        simp at I
        obtain⟨⟨c1,c2⟩,rfl⟩:=I
        simp only[gW]at E
        obtain⟨q1,i,J,p1,p2⟩:=E
        refine iL h (F _ _ J c1 c2 p1) ?_
        by_cases Y:l=K
        ·subst Y
         rw[if_pos rfl]
         by_cases Z:sp= .S∧l=0∧off=0
         ·rw[if_pos Z]
          obtain⟨_,rfl,rfl⟩:=Z
          simp only[gW]
          refine⟨q1,i, ?_,Nat.zero_le _,p2⟩
          by_cases Bh:i=0
          ·rw[if_pos Bh];simp
          ·rw[if_neg Bh];simp[ll]
         rw[if_neg Z]
         simp only[gW,PRel]
         by_cases Bh:i=l
         ·rw[if_pos Bh]
          exact⟨(β sp k g).blk,(β sp k g).off+off,i-l,none,by simp,by omega,(fun e=>by cases e),.inl rfl,by simp[iH]⟩
         ·rw[if_neg Bh]
          exact⟨(β sp k g).blk,(β sp k g).off+off+l*sz,i-l,none,by simp[ll],by omega,(fun e=>by cases e),.inl rfl,by simp[iH]⟩
        ·rw[if_neg Y,if_neg (by omega)]
         simp only[gW]
         refine⟨q1,i-l,by simp[ll,Nat.add_assoc],by omega, ?_⟩
         have:(i-l)*sz+l*sz=i*sz:=by rw[←Nat.add_mul];congr 1;omega
         omega
       ·simp[Q.run]at hs
      ·simp[Q.run]at hs
    |some m=>
     simp only[vU,Option.map_eq_some_iff]at h3
     obtain⟨m',hm',rfl⟩:=h3
     have vm:=kY m m' hm'
     have F: ∀(H:Option Addr) i,a.eval x= .slice H len i→ ∀k (z:Int),a.eval m= .int k z→z=0→l=0→K=0→
       (execOp a.eval o).run P w= .ok (.value (.slice H 0 0)) w:=by
      intro H i ex k z em Z CO hh0
      subst Z;subst CO;subst hh0
      have hb:(Instr.sliceBounds true len i (lo.map a.eval) (hi.map a.eval) (some (.int k 0))).run P w= .ok (0,0,0) w:=by
       unfold Instr.sliceBounds
       rcases xu kY h2 e2 with⟨rfl,rfl,hx0⟩|⟨y2,k2,m2,rfl,ey2,hm2,Rg⟩
       ·simp at ZP
       ·have b1:=ln (P:=P) (w:=w) (k:=k) (m:=0) (y:=i) (code:= .slice3Acap) (by omega) (by simp)
        have b2:=ln (P:=P) (w:=w) (k:=k2) (m:=m2) (y:=0) (code:= .slice3B) hm2 (by omega)
        rcases xu kY h1 X with⟨rfl,rfl,_⟩|⟨y,k1,m1,rfl,ey,hm,hz1⟩
        ·simp_all
        ·have b3:=ln (P:=P) (w:=w) (k:=k1) (m:=m1) (y:=m2.toNat) (code:= .slice3C) hm (by omega)
         simp_all
      cases H <;> simp[execOp,ho,ex,em,Instr.sliceAt,run_underlying ht,Instr.slice,hb,nn hn]
     simp only[X,e2]at D
     cases em:asNat (st.rho m')with
     |none=>simp[em,Q.run]at D
     |some z=>
      obtain⟨km,zm,ez,hz1,Rg⟩:=oe em
      rw[ez]at vm
      have vm':=vm.int
      split at D
      ·grind [gW,tC,Q.run,iL]
      ·rename_i U lI
       rw[em]at U
       simp at U;subst U
       split at D
       ·rename_i I
        simp at I
        simp[Q.run]at D;obtain⟨rfl,rfl⟩:=D
        have: ∃C off i sp,a.eval x= .slice (some ⟨C,off,sp⟩) len i:=by
         generalize st.rho V=tx at*
         cases tx <;> simp[tC]at r
         case nilsl=>exact absurd rfl lI
         case sl cs VQ ex=>
          subst r
          simp only[gW,PRel]at E
          obtain⟨C,off,i,sp,J,_⟩:=E
          exact⟨C,off,i,sp,J⟩
         case isl sp k g off VQ sz=>
          subst r
          simp only[gW]at E
          obtain⟨_,i,J,_⟩:=E
          exact⟨_,_,i,none,J⟩
        obtain⟨C,off,i,sp,J⟩:=this
        refine iL h (F _ _ J km zm vm' (by omega) I.1 I.2) ?_
        simp only[gW,PRel]
        exact⟨C,off,0,sp,rfl,Nat.le_refl _,fun _=>rfl,.inr rfl,by simp[iH]⟩
       ·simp[Q.run]at D
      ·simp[Q.run]at D
end
end Go.Ev
namespace Go.Ev
open Go
section
variable{P:Program}{B:lS}{st:St}{a:Act}{w:World}{β:iJ}{M:im}{o:Oper}{v:T}{ups:List Up}
theorem My{C:Bool}{x y:T}{D:List T}{r:T}(h:nD C x (y::D)=some r): ∃k n,x= .i k n:=by
 unfold nD at h
 grind
theorem k5{c:Call}{b:Builtin}(i:o.op= .call c)(r:c.callee= .builtin b):
  (execOp a.eval o).run P w=(builtin b c.argTypes o.type (c.args.map fun| .const _=>true|_=>false) (c.args.map a.eval)).run P w:=by
 simp only[execOp,i,resolve,r,Sem.run_bind]
 rfl
theorem zQ{args:Array Operand}{x:Operand}(h:args.toList= [x])(f:Operand→Value):args.map f= #[f x]:=by
 apply Array.ext';simp[h]
theorem aaC{args:Array Operand}{x y:Operand}(h:args.toList= [x,y])(f:Operand→Value):args.map f= #[f x,f y]:=by
 apply Array.ext';simp[h]
variable(kY:qH β st.gens w M st.rho a.eval)(h:iP B st w β M)
include kY h
theorem aaD{d D:Nat}{c:Call}{t:TypeId}{x:Operand}{r:iz}(E:o.op= .call c)(F:c.callee= .builtin .len)(H:c.argTypes[0]? =some t)(I:c.args.toList= [x])(J:P.underlying t=some .string)(K:lP x=some r)
  (i:(jf d st.rho (.lenS r)).run st.get D=some (.val v ups)):lz P B st a w β M o v ups:=by
 have C:=kY x r K
 simp only[jf]at i
 split at i
 ·rename_i O e
  simp[Q.run]at i;obtain⟨rfl,rfl⟩:=i
  rw[e]at C
  obtain⟨s,N,rfl⟩:=C.str
  refine iL h (cv:= .int .i64 s.size) ?_ (by simp only[gW,mC])
  rw[k5 E F,zQ I]
  simp[builtin,Builtin.len_,H,N,run_underlying J,goInt]
 ·simp[Q.run]at i
theorem aaE{d F:Nat}{c:Call}{t e:TypeId}{x:Operand}{i:iz}(H:o.op= .call c)(I:c.callee= .builtin .len)(J:c.argTypes[0]? =some t)(K:c.args.toList= [x])(N:P.underlying t=some (.slice e))(O:lP x=some i)
  (C:(jf d st.rho (.lenV i)).run st.get F=some (.val v ups)):lz P B st a w β M o v ups:=by
 have W:=kY x i O
 simp only[jf]at C
 cases D:tC (st.rho i)with
 |none=>simp[D,Ev.val,Q.run]at C
 |some n=>
  simp[D,Ev.val,Q.run]at C;obtain⟨rfl,rfl⟩:=C
  have: ∃E r,a.eval x= .slice E n r:=by
   generalize st.rho i=U at*
   cases U <;> simp[tC]at D
   case nilsl=>grind [gW]
   case sl cs VQ ex=>grind [gW,PRel]
   grind [gW]
  obtain⟨E,r,V⟩:=this
  refine iL h (cv:= .int .i64 n) ?_ (by simp only[gW])
  rw[k5 H I,zQ K]
  simp[builtin,Builtin.len_,J,V,run_underlying N,goInt]
theorem aaF{d Y:Nat}{c:Call}{t Z et:TypeId}{x:Operand}{I:iz}(N:o.op= .call c)(O:c.callee= .builtin .len)(U:c.argTypes[0]? =some t)(V:c.args.toList= [x])(W:P.underlying t=some (.map Z et))(hx:lP x=some I)
  (r:(jf d st.rho (.lenM I)).run st.get Y=some (.val v ups)):lz P B st a w β M o v ups:=by
 have D:=kY x I hx
 have F: ∀C E i,a.eval x= .map (some C)→w.heap[C]? =some (.map E i)→(execOp a.eval o).run P w= .ok (.value (.int .i64 E.size)) w:=by
  intro C E i J H
  rw[k5 N O,zQ V]
  simp[builtin,Builtin.len_,U,J,run_underlying W,goInt,getObj,Sem.run,H]
 simp only[jf]at r
 split at r
 ·rename_i e
  simp[Q.run]at r;obtain⟨rfl,rfl⟩:=r
  rw[e]at D;simp only[gW]at D
  refine iL h (cv:= .int .i64 0) ?_ (by simp only[gW])
  rw[k5 N O,zQ V]
  simp[builtin,Builtin.len_,U,D,run_underlying W,goInt]
 ·rename_i ks vs e
  simp[Q.run]at r;obtain⟨rfl,rfl⟩:=r
  rw[e]at D;simp only[gW,PRel]at D
  obtain⟨C,E,i,J,H,_,_,K,_⟩:=D
  refine iL h (F C E i J H) ?_
  simp only[gW]
  have:=PList.length _ _ K
  grind
 ·rename_i sp k g e
  simp only[Q.run]at r
  split at r
  ·rename_i X
   have Cx:=h.obj sp k
   generalize he:st.get sp k=en at*
   obtain⟨ge,ob⟩:=en
   dsimp only at X;subst X
   cases ob with
   |none=>simp[Q.run]at r
   |cells _ _ _=>simp[Q.run]at r
   |map ks vs f=>
    simp[Q.run]at r;obtain⟨rfl,rfl⟩:=r
    rw[e]at D;simp only[gW]at D
    unfold kQ at Cx
    obtain⟨E,i,H,_,K,_⟩:=Cx
    refine iL h (F _ E i D.2 H) ?_
    simp only[gW]
    have:=PList.length _ _ K
    simp at this;rw[this]
  ·simp[Q.run]at r
 ·simp[Q.run]at r
omit kY in
theorem aaG{c:Call}{t e:TypeId}{n:Nat}{x:Operand}(r:o.op= .call c)(C:c.callee= .builtin .len)(D:c.argTypes[0]? =some t)(E:c.args.toList= [x])(F:P.underlying t=some (.array n e)):
  lz P B st a w β M o (.i .i64 n) []:=by
 refine iL h (cv:= .int .i64 n) ?_ (by simp only[gW])
 rw[k5 r C,zQ E]
 simp[builtin,Builtin.len_,D,run_underlying F,goInt]
omit kY h in
theorem OS{k:IntKind}: ∀(C:List T) (E:List Value) (x:Int) (r:T),gY β st.gens w M C E→nD false (.i k x) C=some r→ ∃n,r= .i k n∧(E.foldlM Builtin.min2 (.int k x)).run P w= .ok (.int k n) w
 | [],E,x,r,F,D=>by
   simp_all[gY,nD]
 |t::ts,E,x,r,F,D=>by
  simp only[gY]at F
  obtain⟨u,us,rfl,H,I⟩:=F
  cases t <;> simp only[nD]at D <;> try (cases D;done)
  rename_i k' y
  split at D
  ·rename_i J;subst J
   have:=H.int;subst this
   obtain⟨n,K,N⟩:=OS ts us _ r I D
   grind [Sem.run_bind,Builtin.min2,Sem.run_pure,Result.andThen_ok]
  ·cases D
omit kY h in
theorem OT{k:IntKind}: ∀(C:List T) (E:List Value) (x:Int) (r:T),gY β st.gens w M C E→nD true (.i k x) C=some r→ ∃n,r= .i k n∧(E.foldlM Builtin.max2 (.int k x)).run P w= .ok (.int k n) w
 | [],E,x,r,F,D=>by
   simp_all[gY,nD]
 |t::ts,E,x,r,F,D=>by
  simp only[gY]at F
  obtain⟨u,us,rfl,H,I⟩:=F
  cases t <;> simp only[nD]at D <;> try (cases D;done)
  rename_i k' y
  split at D
  ·rename_i J;subst J
   have:=H.int;subst this
   obtain⟨n,K,N⟩:=OT ts us _ r I D
   grind [Sem.run_bind,Builtin.max2,Sem.run_pure,Result.andThen_ok]
  ·cases D
theorem af4{d X:Nat}{i:Bool}{c:Call}{as:List iz}(H:o.op= .call c)(I:c.callee= .builtin (if i then .max else .min))(Y:Bf c.args.toList=some as)
  (E:(jf d st.rho (.mm i as)).run st.get X=some (.val v ups)):lz P B st a w β M o v ups:=by
 have J:=xt kY Y
 simp only[jf]at E
 split at E
 ·rename_i x C e
  cases D:nD i x C with
  |none=>simp[D,Ev.val,Q.run]at E
  |some r=>
   simp[D,Ev.val,Q.run]at E;obtain⟨rfl,rfl⟩:=E
   rw[e]at J
   simp only[gY]at J
   obtain⟨u,us,K,U,F⟩:=J
   cases C with
   |nil=>
    simp[nD]at D;subst D
    simp only[gY]at F;subst F
    refine iL h (cv:=u) ?_ U
    rw[k5 H I]
    cases i <;> simp[builtin,Builtin.min_,Builtin.max_,K]
   |cons y V=>
    obtain⟨k,W,rfl⟩:=My D
    have:=U.int;subst this
    cases i with
    |false=>
     obtain⟨n,N,O⟩:=OS (P:=P) (y::V) us W r F D
     subst N
     refine iL h (cv:= .int k n) ?_ (by simp only[gW])
     rw[k5 H I]
     simp[builtin,Builtin.min_,K,O]
    |true=>
     obtain⟨n,N,O⟩:=OT (P:=P) (y::V) us W r F D
     subst N
     refine iL h (cv:= .int k n) ?_ (by simp only[gW])
     rw[k5 H I]
     simp[builtin,Builtin.max_,K,O]
 ·simp[Q.run]at E
end
theorem wB{P:Program}{t:TypeId}{k:CK}(h:Ft P t=some k):match k with| .int=> ∃i,P.underlying t=some (.int i)| .str=>P.underlying t=some .string| .bool=>P.underlying t=some .bool:=by
 grind [Ft]
theorem DG{P:Program}{β:iJ}{G:Sp→Nat→Nat}{w:World}{M:im}{t:TypeId}{k:CK}{x y:T}{cx E:Value}{r:Bool}(d:Nat)(F:Ft P t=some k)(C:gW β G w M x cx)(D:gW β G w M y E)(h:lN k x y=some r):
  (Op.equalIn (d+1) t cx E).run P w= .ok r w:=by
 have i:=wB F
 unfold lN at h
 split at h
 ·simp at h;subst h
  rw[C.bool,D.bool]
  exact run_equalIn_bool' w d t _ _ i
 ·split at h
  ·rename_i e;subst e
   simp at h;subst h
   obtain⟨H,i⟩:=i
   rw[C.int,D.int]
   exact run_equalIn_int w d t _ H _ _ i
  ·cases h
 ·simp at h;subst h
  obtain⟨bx,I,rfl⟩:=C.str
  obtain⟨K,J,rfl⟩:=D.str
  rw[I,J,run_equalIn_string w d t _ _ i,kC,kC,mV]
 ·cases h
theorem zR{P:Program}{β:iJ}{G:Sp→Nat→Nat}{w:World}{M:im}(d:Nat){J K:Array Value}{xs H:List T}(W:gY β G w M xs J.toList)(X:gY β G w M H K.toList):
  ∀(I:List Field) (i:Nat) (ks:List CK) (r:Bool),pV P i I=some ks→jX ks (xs.drop i) (H.drop i)=some r→(Op.eqFields (d+1) J K I).run P w= .ok r w
 | [],i,ks,r,D,C=>by
   simp[pV]at D;subst D
   generalize xs.drop i=Z at C
   generalize H.drop i=yd at C
   cases Z <;> cases yd <;> simp[jX]at C
   subst C;simp[Op.eqFields]
 |f::I,i,ks,r,D,C=>by
  simp only[pV]at D
  split at D
  ·rename_i E
   simp at E
   obtain⟨⟨c1,c2⟩,c3⟩:=E
   split at D
   ·rename_i k N Y h2
    simp at D;subst D
    cases F:xs.drop i with
    |nil=>grind [jX]
    |cons x xr=>
     cases ZQ:H.drop i with
     |nil=>grind [jX]
     |cons y yr=>
      rw[F,ZQ]at C
      simp only[jX]at C
      have gx:xs[i]? =some x:=by have:=congrArg (·[0]?) F;simpa using this
      have gy:H[i]? =some y:=by have:=congrArg (·[0]?) ZQ;simpa using this
      obtain⟨cx,ax,vx⟩:=W.get gx
      obtain⟨cy,ay,vy⟩:=X.get gy
      have agg:xW P f.type=some false:=by
       have:=wB Y
       grind [xW]
      have sd:(Go.part f.type J f.offset).run P w= .ok cx w:=by
       simp_all[Go.part,Sem.run_bind,wA,Result.andThen_ok]
      have O:(Go.part f.type K f.offset).run P w= .ok cy w:=by
       simp_all[Go.part,Sem.run_bind,wA,Result.andThen_ok]
      have U:xs.drop (i+1)=xr:=by rw[←List.drop_drop,F];rfl
      have V:H.drop (i+1)=yr:=by rw[←List.drop_drop,ZQ];rfl
      simp only[Op.eqFields,if_pos (show f.name≠ "_" from c2),Sem.run_bind,sd,O,Result.andThen_ok]
      cases E:lN k x y with
      |none=>simp[E]at C
      |some b=>
       rw[DG d Y vx vy E]
       cases b with
       |false=>simp[E]at C;subst C;simp
       |true=>
        simp only[E]at C
        simp only[Result.andThen_ok,Bool.not_true,Bool.false_eq_true,if_false]
        exact zR d W X I (i+1) N r h2 (by rw[U,V];exact C)
   ·cases D
  ·cases D
theorem pX{P:Program}{t:TypeId}{k:EK}(h:DA P t=some k):match k with
  | .one c=>Ft P t=some c
  | .flat ks=> ∃i,P.underlying t=some (.struct i)∧P.eqGuardType P.depth t=false∧P.stoodInHeld t=false∧pV P 0 i.toList=some ks
  | .sl=> ∃e,P.underlying t=some (.slice e)
  | .ptr=> ∃e,P.underlying t=some (.pointer e)
  | .map=> ∃a b,P.underlying t=some (.map a b):=by
 grind [DA,Ft,Option.map_eq_some_iff]
theorem Cy{P:Program}(w:World)(d:Nat)(t e:TypeId)(p:Option Addr)(h:P.underlying t=some (.pointer e)):(Op.equalIn (d+1) t (.pointer p) (.pointer none)).run P w= .ok p.isNone w:=by
 cases p <;> simp[Op.equalIn,run_underlying h]
theorem ti{P:Program}(w:World)(t e:TypeId)(p:Option Addr)(h:P.underlying t=some (.pointer e)):(Op.equal t (.pointer p) (.pointer none)).run P w= .ok p.isNone w:=Cy w 9999 t e p h
theorem OU{P:Program}{β:iJ}{G:Sp→Nat→Nat}{w:World}{M:im}{t:TypeId}{k:EK}{x y:T}{cx F:Value}{r:Bool}(J:DA P t=some k)(C:gW β G w M x cx)(D:gW β G w M y F)(h:xV k x y=some r):
  (Op.equal t cx F).run P w= .ok r w:=by
 have i:=pX J
 unfold xV at h
 split at h
 ·exact DG 9999 i C D h
 ·rename_i ks xs Y
  obtain⟨K,H,Z,N,O⟩:=i
  simp only[gW]at C D
  obtain⟨U,rfl,V,_⟩:=C
  obtain⟨W,rfl,X,_⟩:=D
  have I:P.fieldsOf t=K:=by simp[Program.fieldsOf,H]
  have:=run_equalIn_struct w 9999 t U W (by rw[I];exact H) N
  rw[I]at this
  exact this.trans (zR 9998 V X _ 0 ks r O (by simpa using h))
 ·simp at h;subst h
  obtain⟨e,i⟩:=i
  simp only[gW]at C D;subst C;subst D
  exact run_equal_slice_nil w t e _ _ _ i
 ·simp at h;subst h
  obtain⟨e,i⟩:=i
  simp only[gW,PRel]at C D
  obtain⟨_,_,_,_,rfl,_⟩:=C;subst D
  exact run_equal_slice_nil w t e _ _ _ i
 ·simp at h;subst h
  obtain⟨e,i⟩:=i
  simp only[gW]at C D
  obtain⟨_,_,rfl,_⟩:=C;subst D
  exact run_equal_slice_nil w t e _ _ _ i
 ·grind [gW,ti]
 ·grind [gW,PRel,ti]
 ·grind [gW,ti]
 ·simp at h;subst h
  obtain⟨e,E,i⟩:=i
  simp only[gW]at C D;subst C;subst D
  exact run_equal_map_nil w t e E _ i
 ·simp at h;subst h
  obtain⟨e,E,i⟩:=i
  simp only[gW,PRel]at C D
  obtain⟨_,_,_,rfl,_⟩:=C;subst D
  exact run_equal_map_nil w t e E _ i
 ·simp at h;subst h
  obtain⟨e,E,i⟩:=i
  simp only[gW]at C D
  obtain⟨_,rfl⟩:=C;subst D
  exact run_equal_map_nil w t e E _ i
 ·cases h
end Go.Ev
namespace Go.Ev
open Go
section
variable{P:Program}{B:lS}{st:St}{a:Act}{w:World}{β:iJ}{M:im}{o:Oper}{v:T}{ups:List Up}
variable(kY:qH β st.gens w M st.rho a.eval)(h:iP B st w β M)
include kY h in
theorem OV{neg:Bool}{k:EK}{t X:TypeId}{x y:Operand}{K N:iz}(V:o.op= .binOp (if neg then .neq else .eql) t x y X)(Y:lP x=some K)(Z:lP y=some N)(W:DA P t=some k)(hn:k≠ .one .int∧k≠ .one .str){r:Bool}
  (I:xV k (st.rho K) (st.rho N)=some r):lz P B st a w β M o (.b (r != neg)) []:=by
 have C:=kY x K Y
 have D:=kY y N Z
 have U:=OU (P:=P) W C D I
 have hu:=pX W
 refine iL h (cv:= .bool (r != neg)) ?_ (by simp only[gW])
 generalize st.rho K=tx at*
 generalize st.rho N=ty at*
 have i: ∀cx F,a.eval x=cx→a.eval y=F→(eqGuard (if neg then .neq else .eql) t x y cx F).run P w= .ok () w→
   ((binOp .eql t cx F)=(do pure (.bool (←Op.equal t cx F))))→((binOp .neq t cx F)=(do pure (.bool (!(←Op.equal t cx F)))))→(execOp a.eval o).run P w= .ok (.value (.bool (r != neg))) w:=by
  intro cx F E J O e4 e5
  rw[E,J]at U
  cases neg
  ·simp at O
   simp[execOp,V,E,J,O,e4,U]
  ·simp at O
   simp[execOp,V,E,J,O,e5,U]
 have H: ∀cx F,(∀z,cx≠ .agg z)→cx≠ .nilIface→(eqGuard (if neg then .neq else .eql) t x y cx F).run P w= .ok () w:=by
  intro cx F h1 h2
  cases neg <;> cases cx <;> simp[eqGuard]at*
 unfold xV at I
 split at I
 ·rename_i c
  unfold lN at I
  split at I
  ·exact i _ _ C.bool D.bool (H _ _ (by simp) (by simp)) rfl rfl
  ·grind
  ·grind
  ·cases I
 ·obtain⟨fs,u1,u2,u3,u4⟩:=hu
  simp only[gW]at C D
  obtain⟨xa,E,_⟩:=C
  obtain⟨ya,J,_⟩:=D
  exact i _ _ E J (run_eqGuard_agg w _ t x y xa ya u2) rfl rfl
 ·simp only[gW]at C D
  exact i _ _ C D (H _ _ (by simp) (by simp)) rfl rfl
 ·simp only[gW,PRel]at C D
  obtain⟨_,_,_,_,E,_⟩:=C
  exact i _ _ E D (H _ _ (by simp) (by simp)) rfl rfl
 ·simp only[gW]at C D
  obtain⟨_,_,E,_⟩:=C
  exact i _ _ E D (H _ _ (by simp) (by simp)) rfl rfl
 ·simp only[gW]at C D
  exact i _ _ C D (H _ _ (by simp) (by simp)) rfl rfl
 ·simp only[gW,PRel]at C D
  obtain⟨_,_,E,_⟩:=C
  exact i _ _ E D (H _ _ (by simp) (by simp)) rfl rfl
 ·simp only[gW]at C D
  exact i _ _ C.2 D (H _ _ (by simp) (by simp)) rfl rfl
 ·simp only[gW]at C D
  exact i _ _ C D (H _ _ (by simp) (by simp)) rfl rfl
 ·simp only[gW,PRel]at C D
  obtain⟨_,_,_,E,_⟩:=C
  exact i _ _ E D (H _ _ (by simp) (by simp)) rfl rfl
 ·simp only[gW]at C D
  exact i _ _ C.2 D (H _ _ (by simp) (by simp)) rfl rfl
 ·cases I
end
theorem Mz{P:Program}{β:iJ}{G:Sp→Nat→Nat}{w:World}{M:im}{t:TypeId}{c:CK}{D:TypeDesc}{k x:T}{kv E:Value}{b:Bool}(F:Ft P t=some c)(i:P.underlying t=some D)(r:gW β G w M k kv)(C:gW β G w M x E)(h:lN c k x=some b):
  Instr.sameNow D kv E=some b:=by
 have Mx:=wB F
 unfold lN at h
 split at h
 ·simp at h;subst h
  rw[r.bool,C.bool]
  simp only at Mx
  rw[i]at Mx;simp at Mx;subst Mx
  rfl
 ·split at h
  ·rename_i e;subst e
   simp at h;subst h
   obtain⟨J,Mx⟩:=Mx
   rw[i]at Mx;simp at Mx;subst Mx
   rw[r.int,C.int];simp[Instr.sameNow]
  ·cases h
 ·simp at h;subst h
  simp only at Mx
  rw[i]at Mx;simp at Mx;subst Mx
  obtain⟨K,H,rfl⟩:=r.str
  obtain⟨N,I,rfl⟩:=C.str
  rw[H,I]
  simp[Instr.sameNow,beq_toListBytes,kC,mV]
 ·cases h
def Found(D:List MapEntry)(off:Nat)(r:Option Nat)(C:Option (Nat×Value)):Prop:=
 match r with
 |none=>C=none
 |some i=> ∃e,D[i]? =some e∧C=some (off+i,e.val)
theorem DH{P:Program}{β:iJ}{G:Sp→Nat→Nat}{w:World}{M:im}{t:TypeId}{c:CK}{I:TypeDesc}{k:T}{kv:Value}(J:Ft P t=some c)(K:P.underlying t=some I)(N:gW β G w M k kv):
  ∀(E:List MapEntry) (ks:List T) (off:Nat) (r:Option Nat),PList w M ks (E.map (·.key))→nz (.one c) k ks=some r→ ∃C,Instr.findNow I kv E off=some C∧Found E off r C
 | [],ks,off,r,F,D=>by
   cases ks with
   |nil=>simp[nz]at D;subst D;exact⟨none,rfl,rfl⟩
   |cons x xs=>simp[PList]at F
 |e::E,ks,off,r,F,D=>by
  cases ks with
  |nil=>simp[PList]at F
  |cons x xs=>
   simp only[List.map_cons,PList,List.cons.injEq]at F
   obtain⟨u,us,⟨rfl,rfl⟩,V,W⟩:=F
   simp only[nz,xV]at D
   cases H:lN c k x with
   |none=>simp[H]at D
   |some b=>
    have hs:=Mz J K N (PRel.toV β G _ _ V) H
    cases b with
    |true=>
     simp[H]at D;subst D
     exact⟨some (off,e.val),by simp[Instr.findNow,hs],e,rfl,rfl⟩
    |false=>
     simp only[H,Option.map_eq_some_iff]at D
     obtain⟨O,X,rfl⟩:=D
     obtain⟨C,Y,U⟩:=DH J K N E xs (off+1) O W X
     refine⟨C,by simp[Instr.findNow,hs,Y], ?_⟩
     cases O with
     |none=>exact U
     |some i=>
      obtain⟨Z,a1,a2⟩:=U
      exact⟨Z,by simpa using a1,by rw[a2];simp;omega⟩
theorem yl{P:Program}{β:iJ}{G:Sp→Nat→Nat}{w:World}{M:im}{t:TypeId}{I:EK}{k:T}{kv:Value}(J:DA P t=some I)(K:gW β G w M k kv):
  ∀(E:List MapEntry) (ks:List T) (off:Nat) (r:Option Nat),PList w M ks (E.map (·.key))→nz I k ks=some r→ ∃C,(Instr.findAsking t kv E off).run P w= .ok C w∧Found E off r C
 | [],ks,off,r,F,D=>by
   cases ks with
   |nil=>simp[nz]at D;subst D;exact⟨none,by simp[Instr.findAsking],rfl⟩
   |cons x xs=>simp[PList]at F
 |e::E,ks,off,r,F,D=>by
  cases ks with
  |nil=>simp[PList]at F
  |cons x xs=>
   simp only[List.map_cons,PList,List.cons.injEq]at F
   obtain⟨u,us,⟨rfl,rfl⟩,U,V⟩:=F
   simp only[nz]at D
   cases H:xV I k x with
   |none=>simp[H]at D
   |some b=>
    have hs:=OU (P:=P) J K (PRel.toV β G _ _ U) H
    cases b with
    |true=>
     simp[H]at D;subst D
     exact⟨some (off,e.val),by simp[Instr.findAsking,hs],e,rfl,rfl⟩
    |false=>
     simp only[H,Option.map_eq_some_iff]at D
     obtain⟨N,W,rfl⟩:=D
     obtain⟨C,X,O⟩:=yl J K E xs (off+1) N V W
     refine⟨C,by simp[Instr.findAsking,hs,X], ?_⟩
     cases N with
     |none=>exact O
     |some i=>
      obtain⟨Y,a1,a2⟩:=O
      exact⟨Y,by simpa using a1,by rw[a2];simp;omega⟩
theorem MA{P:Program}{t:TypeId}{i:EK}(h:keyOf P t=some i):DA P t=some i∧((∃c,i= .one c)∨ ∃ks,i= .flat ks):=by
 grind [keyOf]
theorem uS{P:Program}{β:iJ}{G:Sp→Nat→Nat}{w:World}{M:im}{t:TypeId}{J:EK}{k:T}{kv:Value}(V:keyOf P t=some J)(K:gW β G w M k kv)(C:List MapEntry)(ks:List T)(r:Option Nat)(F:PList w M ks (C.map (·.key)))
  (E:nz J k ks=some r): ∃i,(Instr.findKey t kv C).run P w= .ok i w∧Found C 0 r i:=by
 obtain⟨H,W⟩:=MA V
 unfold Instr.findKey
 rcases W with⟨c,rfl⟩|⟨ck,rfl⟩
 ·have ZR:=pX H
  simp only at ZR
  have: ∃N,P.underlying t=some N:=by
   have:=wB ZR
   grind
  obtain⟨N,O⟩:=this
  obtain⟨i,I,D⟩:=DH ZR O K C ks 0 r F E
  exact⟨i,by simp[run_underlying O,I],D⟩
 ·obtain⟨X,U,_⟩:=pX H
  obtain⟨i,I,D⟩:=yl (P:=P) H K C ks 0 r F E
  cases C with
  |nil=>
   refine⟨i, ?_,D⟩
   have:i=none:=by
    cases ks with
    |nil=>simp[nz]at E;subst E;exact D
    |cons x xs=>simp[PList]at F
   subst this
   simp[run_underlying U,Instr.findNow]
  |cons e C=>
   refine⟨i, ?_,D⟩
   have:Instr.sameNow (.struct X) kv e.key=none:=by unfold Instr.sameNow;split <;> simp_all
   simp[run_underlying U,Instr.findNow,this,I]
theorem zS{P:Program}{w:World}{t:TypeId}{c:CK}(i:Ft P t=some c)(n:Nat)(r:Bool)(v:Value):(Instr.checkKey r (n+1) t v).run P w= .ok () w:=by
 have:=wB i
 cases c
 ·obtain⟨C,e⟩:=this;simp[Instr.checkKey,run_underlying e]
 ·simp[Instr.checkKey,run_underlying this]
 ·simp[Instr.checkKey,run_underlying this]
theorem vN{P:Program}{w:World}(n:Nat)(E:Bool)(cs:Array Value): ∀(C:List Field) (i:Nat) (ks:List CK),pV P i C=some ks→i+ks.length≤cs.size→
  (forIn C PUnit.unit (fun f (_:PUnit)=>
    if f.name≠ "_" then(do
     let p ←Go.part f.type cs f.offset
     Instr.checkKey E (n+1) f.type p
     pure (ForInStep.yield PUnit.unit))else pure (ForInStep.yield PUnit.unit):Field→PUnit→Sem (ForInStep PUnit))).run P w= .ok PUnit.unit w
 | [],i,ks,r,hs=>by simp
 |f::C,i,ks,r,hs=>by
  simp only[pV]at r
  split at r
  ·rename_i F
   simp at F
   obtain⟨⟨K,N⟩,O⟩:=F
   split at r
   ·rename_i k D H I
    simp at r;subst r
    have J:xW P f.type=some false:=by
     have:=wB H
     grind [xW]
    have hi:i<cs.size:=by simp at hs;omega
    have U:(Go.part f.type cs f.offset).run P w= .ok cs[i] w:=by
     simp_all[Go.part,Sem.run_bind,wA,Result.andThen_ok,Array.getElem?_eq_getElem]
    have ih:=vN (P:=P) (w:=w) n E cs C (i+1) D I (by simp at hs;omega)
    grind [Sem.run_bind,Result.andThen_ok,zS,Sem.run_pure]
   ·cases r
  ·cases r
theorem B3{P:Program}{β:iJ}{G:Sp→Nat→Nat}{w:World}{M:im}{t:TypeId}{C:EK}{k:T}{kv:Value}(H:keyOf P t=some C)(D:gW β G w M k kv)(OW:isKey C k=true)(n:Nat)(r:Bool):
  (Instr.checkKey r (n+2) t kv).run P w= .ok () w:=by
 obtain⟨E,I⟩:=MA H
 rcases I with⟨c,rfl⟩|⟨ck,rfl⟩
 ·exact zS (pX E) (n+1) r kv
 ·obtain⟨J,K,_,_,N⟩:=pX E
  unfold isKey at OW
  split at OW
  ·simp_all
  ·rename_i ks xs e
   simp at e;subst e
   simp only[gW]at D
   obtain⟨i,rfl,O,_⟩:=D
   have F:ck.length≤i.size:=by
    have U:=gY.length _ _ O
    have: ∀(ks:List CK) (xs:List T),qU ks xs=true→ks.length=xs.length:=by
     intro ks
     induction ks with
     |nil=>intro xs h;cases xs <;> simp[qU]at h ⊢
     |cons k ks ih=>intro xs h;cases xs <;> simp[qU]at h ⊢; exact ih _ h.2
    grind
   have:=vN (P:=P) (w:=w) n r i J.toList 0 ck N (by omega)
   rw[Instr.checkKey]
   simp only[Sem.run_bind,run_underlying K,Result.andThen_ok]
   simp_all
  ·cases OW
end Go.Ev
