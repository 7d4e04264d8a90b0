/- A tree evaluator over the model, proved against it (part B): where it answers, the call returns that answer. Conditions: none beyond its theorems' own. -/
import Derived.Test.YtcpceiclnbmgiaaGreatEvA
import Derived.Laws.Cells
import Derived.Laws.CopyRow
import Derived.Laws.AppendOwn
import Derived.Laws.Entries
import Derived.Laws.StructEq
import Derived.Laws.Cover3
import Derived.ChangeKeysEq
set_option linter.unusedSimpArgs false
set_option linter.unusedVariables false
namespace Go.Ev
open Go
theorem wL{w:World}{M:iB}{v:Value}{t:T}(h:vO v=some t):PRel w M t v∧single t=true:=by
 unfold vO at h
 grind [PRel,single,PList]
theorem uS{w:World}{M:iB}: ∀{i:List Value} {ts:List T},oU i=some ts→PList w M ts i∧ts.all single=true
 | [],ts,h=>by grind [oU,PList]
 |v::i,ts,h=>by
  simp only[oU]at h
  split at h
  ·rename_i t DA r D
   simp at h;subst h
   have a:=wL (w:=w) (M:=M) r
   have b:=uS (w:=w) (M:=M) D
   simp only[PList,List.all_cons,Bool.and_eq_true]
   grind
  ·simp at h
theorem qP{w:World}{M:iB}{v:Value}{t:T}(h:Dv v=some t):PRel w M t v:=by
 unfold Dv at h
 grind [Option.map_eq_some_iff,PRel,uS,wL]
def pJ(β:iL)(G:Sp→Nat→Nat)(w:World)(M:iB)(ρ:iF→T)(e:Operand→Value):Prop:= ∀x y,lW x=some y→fx β G w M (ρ y) (e x)
theorem U8{st:St}{a:Act}{w:World}{β:iL}{M:iB}{n:Nat}(h:og st a w β M n):pJ β st.gens w M st.rho a.eval:=by
 intro x y IU
 cases x with
 |tmp t=>simp[lW]at IU;subst IU;exact h.slot t
 |const v=>
  simp only[lW,Option.map_eq_some_iff]at IU
  obtain⟨t,i,rfl⟩:=IU
  exact PRel.toV _ _ _ _ (qP i)
 |global g=>simp[lW]at IU
 |func f=>grind [lW,St.rho,Act.eval,fx,gP]
def lB(P:Program)(B:l8)(st:St)(a:Act)(w:World)(β:iL)(M:iB)(o:Oper)(v:T)(ups:List Up):Prop:=
 ∃i cv w' r M',(execOp a.eval o).run P w= .ok i w'∧(i= .value cv∨(i= .skip∧cv=undef))∧iU B (st.ups ups) w' r M'∧Tr st w β M (st.ups ups) w' r M'∧w.heap.size≤w'.heap.size∧fx r (st.ups ups).gens w' M' v cv
section
variable{P:Program}{B:l8}{st:St}{a:Act}{w:World}{β:iL}{M:iB}{o:Oper}{v:T}{ups:List Up}
theorem iM(h:iU B st w β M){cv:Value}(hr:(execOp a.eval o).run P w= .ok (.value cv) w)(i:fx β st.gens w M v cv):lB P B st a w β M o v []:=
 ⟨_,cv,w,β,M,hr,.inl rfl,h,Tr.refl _ _ _ _,Nat.le_refl _,i⟩
variable(kV:pJ β st.gens w M st.rho a.eval)(h:iU B st w β M)
include kV h
theorem afC{x:Operand}{y:iF}(ho:o.op= .move x∨o.op= .assign x)(hx:lW x=some y):lB P B st a w β M o (st.rho y) []:=
 iM h (cv:=a.eval x) (by rcases ho with ho|ho <;> simp[execOp,ho]) (kV x y hx)
theorem aaw{c x y:Operand}{i r D:iF}(F:o.op= .pick c x y)(H:lW c=some i)(I:lW x=some r)(J:lW y=some D){bb:Bool}(K:st.rho i= .b bb):
  lB P B st a w β M o (st.rho (if bb then r else D)) []:=by
 have hc:=kV c i H
 rw[K]at hc;simp only[fx]at hc
 cases bb
 ·exact iM h (cv:=a.eval y) (by simp[execOp,F,hc,asBool]) (kV y D J)
 ·exact iM h (cv:=a.eval x) (by simp[execOp,F,hc,asBool]) (kV x r I)
theorem ahC{d H:Nat}{x:Operand}{y:iF}(D:o.op= .nilCheck x)(hx:lW x=some y){v:T}(r:(jk d st.rho (.nck y)).run st.get H=some (.val v ups)):lB P B st a w β M o v ups:=by
 have i:=kV x y hx
 simp only[jk]at r
 split at r <;> simp[Q.run]at r <;> obtain⟨rfl,rfl⟩:=r <;> rename_i e
 ·rw[e]at i
  refine iM h (cv:=a.eval x) ?_ i
  simp only[fx,PRel]at i
  obtain⟨I,off,F,_⟩:=i
  simp[execOp,D,F]
 ·rw[e]at i
  refine iM h (cv:=a.eval x) ?_ i
  simp only[fx]at i
  simp[execOp,D,i.2]
 ·rw[e]at i
  refine iM h (cv:=a.eval x) ?_ i
  simp only[fx]at i
  obtain⟨J,K,F,_⟩:=i
  simp[execOp,D,F]
end
end Go.Ev
namespace Go.Ev
open Go
theorem DB(k:IntKind)(n:Int):wr k n=k.wrap n:=by
 unfold wr
 split
 ·rename_i h
  cases k <;> simp only[lo,hi]at h <;> simp[IntKind.wrap,IntKind.bits,IntKind.signed] <;> omega
 ·rfl
theorem kI(x:ByteArray):bytesN x=x.toList.map UInt8.toNat:=by rw[ByteArray.toList_eq];rfl
theorem mQ: ∀(a b:List UInt8),(a.map UInt8.toNat==b.map UInt8.toNat)=(a==b)
 | [],[]=>rfl
 | [],_::_=>rfl
 |_::_,[]=>rfl
 |x::xs,y::i=>by
  simp only[List.map_cons,List.cons_beq_cons,mQ xs i]
  congr 1
  rw[Bool.eq_iff_iff];simp[UInt8.toNat_inj]
theorem J4: ∀(a b:List UInt8),wK (a.map UInt8.toNat) (b.map UInt8.toNat)=Op.bytesLess a b
 | [],[]=>rfl
 | [],_::_=>rfl
 |_::_,[]=>rfl
 |x::xs,y::i=>by
  simp only[List.map_cons,wK,Op.bytesLess,J4 xs i]
  have r:decide (x.toNat<y.toNat)=decide (x<y):=by rw[Bool.eq_iff_iff];simp[UInt8.lt_iff_toNat_lt]
  have D:(x.toNat==y.toNat)=(x==y):=by rw[Bool.eq_iff_iff];simp[UInt8.toNat_inj]
  rw[r,D]
theorem mF(x:ByteArray):(bytesN x).length=x.size:=by
 unfold bytesN;rw[List.length_map,Array.length_toList];rfl
theorem Fx(x y:ByteArray):bytesN (x++y)=bytesN x++bytesN y:=by simp[bytesN,ByteArray.data_append]
section
variable{P:Program}{B:l8}{st:St}{a:Act}{w:World}{β:iL}{M:iB}{o:Oper}{v:T}{ups:List Up}
theorem fx.int{k:IntKind}{n:Int}{cv:Value}{G:Sp→Nat→Nat}(h:fx β G w M (.i k n) cv):cv= .int k n:=by grind [fx]
theorem fx.str{l:List Nat}{cv:Value}{G:Sp→Nat→Nat}(h:fx β G w M (.s l) cv): ∃i,cv= .string i∧bytesN i=l:=by grind [fx]
theorem fx.bool{x:Bool}{cv:Value}{G:Sp→Nat→Nat}(h:fx β G w M (.b x) cv):cv= .bool x:=by grind [fx]
theorem aax{op:BinOp}{k:IntKind}{x y:Int}{t:TypeId}{r:T}(h:sE op k x y=some r)(hs:op≠ .shl∧op≠ .shr): ∃cv,(binOp op t (.int k x) (.int k y)).run P w= .ok cv w∧ ∀G,fx β G w M r cv:=by
 cases op <;> simp only[sE,Option.some.injEq]at h <;> try (subst h)
 all_goals first
  |exact absurd rfl hs.1
  |exact absurd rfl hs.2
  |skip
 case quo=>
  split at h
  ·cases h
  ·rename_i i
   simp at h;subst h
   exact⟨_,by simp[binOp,Op.intDiv,i];rfl,fun G=>by simp[fx,DB]⟩
 case rem=>
  split at h
  ·cases h
  ·rename_i i
   simp at h;subst h
   exact⟨_,by simp[binOp,Op.intDiv,i];rfl,fun G=>by simp[fx]⟩
 all_goals first
  |exact⟨_,by simp[binOp,Op.intArith,Op.intBits,Op.intCmp];rfl,fun G=>by simp[fx,DB]⟩
  |cases h
theorem Gm{op:BinOp}{k k':IntKind}{x y:Int}{t:TypeId}{r:T}(h:Ds op k x y=some r): ∃cv,(binOp op t (.int k x) (.int k' y)).run P w= .ok cv w∧ ∀G,fx β G w M r cv:=by
 unfold Ds at h
 split at h
 ·cases h
 ·rename_i i
  cases op <;> simp at h <;> subst h
  ·exact⟨_,by simp[binOp,Op.shift,i];rfl,fun G=>by simp[fx]⟩
  ·exact⟨_,by simp[binOp,Op.shift,i];rfl,fun G=>by simp[fx]⟩
theorem aay{op:BinOp}{x y:ByteArray}{t:TypeId}{r:T}(h:Mz op (bytesN x) (bytesN y)=some r): ∃cv,(binOp op t (.string x) (.string y)).run P w= .ok cv w∧ ∀G,fx β G w M r cv:=by
 have i:(bytesN x==bytesN y)=(x.toList==y.toList):=by rw[kI,kI,mQ]
 have D:wK (bytesN x) (bytesN y)=Op.bytesLess x.toList y.toList:=by rw[kI,kI,J4]
 have F:(bytesN x != bytesN y)= !(x.toList==y.toList):=by rw[bne,i]
 cases op <;> simp only[Mz]at h <;> try (cases h;done)
 case add=>
  split at h
  ·rename_i H
   simp at h;subst h
   rw[mF,mF]at H
   have: ¬(((x.size+y.size:Nat):Int)>IntKind.i64.max):=by simp[IntKind.max,IntKind.signed,IntKind.bits];omega
   exact⟨.string (x++y),by simp only[binOp,Op.stringOp,this,if_false];rfl,fun G=>by simp only[fx];exact⟨_,rfl,Fx x y⟩⟩
  ·cases h
 all_goals
  simp only[Option.some.injEq]at h
  subst h
  refine⟨_,by simp only[binOp,Op.stringOp];rfl,fun G=> ?_⟩
  simp only[fx,i,D,F]
variable(kV:pJ β st.gens w M st.rho a.eval)(h:iU B st w β M)
include kV h
theorem ahD{op:BinOp}{t X:TypeId}{x y:Operand}{I J:iF}(K:o.op= .binOp op t x y X)(hx:lW x=some I)(Y:lW y=some J)(i:Ev.bin op (st.rho I) (st.rho J)=some v):lB P B st a w β M o v []:=by
 have N:=kV x I hx
 have O:=kV y J Y
 generalize st.rho I=tx at*
 generalize st.rho J=ty at*
 have MB: ∀k k' m n,(eqGuard op t x y (.int k m) (.int k' n)).run P w= .ok () w:=by intro k k' m n;cases op <;> simp[eqGuard]
 have U: ∀m n,(eqGuard op t x y (.string m) (.string n)).run P w= .ok () w:=by intro m n;cases op <;> simp[eqGuard]
 unfold Ev.bin at i
 split at i
 ·rename_i Z a1 V b1
  have r:=N.int;have D:=O.int
  obtain⟨cv,F,H⟩:=Gm (P:=P) (w:=w) (β:=β) (M:=M) (t:=t) (k':=V) i
  exact iM h (cv:=cv) (by simp[execOp,K,r,D,MB,F]) (H _)
 ·rename_i Z a1 V b1
  have r:=N.int;have D:=O.int
  obtain⟨cv,F,H⟩:=Gm (P:=P) (w:=w) (β:=β) (M:=M) (t:=t) (k':=V) i
  exact iM h (cv:=cv) (by simp[execOp,K,r,D,MB,F]) (H _)
 ·rename_i W Fy
  split at i
  ·rename_i hk
   subst hk
   have r:=N.int;have D:=O.int
   obtain⟨cv,F,H⟩:=aax (P:=P) (w:=w) (β:=β) (M:=M) (t:=t) i ⟨fun e=>W e,fun e=>Fy e⟩
   exact iM h (cv:=cv) (by simp[execOp,K,r,D,MB,F]) (H _)
  ·cases i
 ·obtain⟨bx,r,rfl⟩:=N.str
  obtain⟨bY,D,rfl⟩:=O.str
  obtain⟨cv,F,H⟩:=aay (P:=P) (w:=w) (β:=β) (M:=M) (t:=t) i
  exact iM h (cv:=cv) (by simp[execOp,K,r,D,U,F]) (H _)
 ·cases i
theorem ari{op:UnOp}{t:TypeId}{x:Operand}{r:iF}(D:o.op= .unOp op t x)(hx:lW x=some r)(i:Ev.un op (st.rho r)=some v):lB P B st a w β M o v []:=by
 have F:=kV x r hx
 generalize st.rho r=tx at*
 unfold Ev.un at i
 split at i
 ·simp at i;subst i
  exact iM h (cv:=_) (by simp[execOp,D,F.int,Op.unary,Op.intArith];rfl) (by simp[fx,DB])
 ·simp at i;subst i
  exact iM h (cv:=_) (by simp[execOp,D,F.bool,Op.unary];rfl) (by simp only[fx])
 ·rename_i k n
  simp only[sE,Option.some.injEq]at i;subst i
  exact iM h (cv:= .int k (k.wrap (BitVec.ofInt k.bits (if k.signed then-1 else k.max) ^^^ BitVec.ofInt k.bits n).toNat)) (by simp only[execOp,D,F.int,Op.unary,Op.intBits];rfl) (by simp only[fx])
 ·cases i
theorem ahF{s t:TypeId}{k:IntKind}{x:Operand}{r:iF}(F:o.op= .convert s t x)(hx:lW x=some r)(hs: ∃k',P.underlying s=some (.int k'))(H:P.underlying t=some (.int k)){k':IntKind}{n:Int}(I:st.rho r= .i k' n):
  lB P B st a w β M o (.i k (wr k n)) []:=by
 have D:=kV x r hx
 rw[I]at D
 obtain⟨ks,hs⟩:=hs
 exact iM h (cv:= .int k (k.wrap n)) (by simp[execOp,F,D.int,convert,run_underlying hs,run_underlying H,Conv.intToInt]) (by simp only[fx,DB])
omit h in
theorem vQ: ∀{xs:List Operand} {i:List iF},AG xs=some i→gP β st.gens w M (i.map st.rho) (xs.map a.eval)
 | [],i,h=>by grind [AG,gP]
 |x::xs,i,h=>by
  simp only[AG]at h
  split at h
  ·rename_i y r D F
   simp at h;subst h
   simp only[List.map_cons,gP]
   exact⟨_,_,rfl,kV x y D,vQ F⟩
  ·cases h
theorem aaz{f:FuncId}{first i:Array Operand}{r cs:List iF}(D:o.op= .makeFunc (.func f) first i)(F:AG first.toList=some r)(H:AG i.toList=some cs):
  lB P B st a w β M o (.fn f (r.map st.rho) (cs.map st.rho)) []:=
 iM h (cv:= .func (.func f) (first.map a.eval) (i.map a.eval)) (by simp[execOp,D,Instr.makeFunc]) (by
  simp only[fx]
  exact⟨_,_,rfl,by simpa using vQ kV F,by simpa using vQ kV H⟩)
theorem ahG{x:Operand}{i:iF}{j:Nat}(I:o.op= .extract x j)(hx:lW x=some i){H:List T}(J:st.rho i= .tup H)(K:H[j]? =some v):lB P B st a w β M o v []:=by
 have r:=kV x i hx
 rw[J]at r
 simp only[fx]at r
 obtain⟨D,e,N⟩:=r
 obtain⟨cv,O,U⟩:=N.get K
 have F:D[j]? =some cv:=by simpa using O
 exact iM h (cv:=cv) (by simp[execOp,I,e,Instr.extract,F]) U
end
end Go.Ev
namespace Go.Ev
open Go
theorem m8{P:Program}{t:TypeId}{n:Nat}(h:lR P t=some n)(w:World):(sizeOf t).run P w= .ok n w:=by
 unfold lR at h
 cases hi:P.info? t with
 |none=>simp[hi]at h
 |some i=>simp[hi]at h;simp[sizeOf,typeInfo,hi,h]
theorem qQ{P:Program}{t:TypeId}{ag:Bool}(h:uA P t=some ag)(w:World):(isAgg t).run P w= .ok ag w:=by
 unfold uA at h
 cases i:P.underlying t with
 |none=>simp[i]at h
 |some d=>
  simp only[i,Option.map_some,Option.some.injEq]at h
  unfold isAgg
  simp only[Sem.run_bind,run_underlying i,Result.andThen_ok]
  cases d <;> simp at h <;> subst h <;> rfl
theorem J5{P:Program}{β:iL}{G:Sp→Nat→Nat}{w:World}{M:iB}{t:TypeId}{off n:Nat}{ag:Bool}{cs:List T}{i:Array Value}{v:T}(D:lR P t=some n)(F:uA P t=some ag)
  (r:gP β G w M cs i.toList) (hs:cs.all single=true) (h:Ev.part cs off n ag=some v): ∃cv,(Go.part t i off).run P w= .ok cv w∧fx β G w M v cv:=by
 unfold Ev.part at h
 unfold Go.part
 simp only[Sem.run_bind,qQ F,Result.andThen_ok]
 cases ag with
 |true=>
  simp only[if_true]at h ⊢
  split at h
  ·rename_i H
   simp at h;subst h
   refine⟨.agg (i.extract off (off+n)),by simp[m8 D], ?_⟩
   simp only[fx]
   refine⟨_,rfl, ?_,nw hs _ _⟩
   have:=gP.take n (gP.drop off r)
   grind [Array.toList_extract,List.extract_eq_take_drop]
  ·cases h
 |false=>
  simp only[Bool.false_eq_true,if_false]at h ⊢
  obtain⟨cv,I,J⟩:=r.get h
  simp_all
theorem kZ(b o n:Nat):(⟨b,o,none⟩:Addr).add n=⟨b,o+n,none⟩:=by grind [Addr.add]
theorem PCells.drop{w:World}{M:iB}{i:Nat}: ∀{off:Nat} {ts:List T} (n:Nat),PCells w M i off ts→n≤ts.length→PCells w M i (off+n) (ts.drop n)
 |off,ts,0,h,_=>by simpa using h
 |off,[],n+1,h,r=>by simp at r
 |off,c::cs,n+1,h,r=>by
  simp only[PCells]at h
  have:=PCells.drop n h.2 (by simpa using r)
  grind
theorem PCells.take{w:World}{M:iB}{i:Nat}: ∀{off:Nat} {ts:List T} (n:Nat),PCells w M i off ts→PCells w M i off (ts.take n)
 |off,ts,0,h=>by simp[PCells]
 |off,[],n+1,h=>by simp[PCells]
 |off,c::cs,n+1,h=>by
  simp only[PCells]at h
  simp only[List.take_succ_cons,PCells]
  exact⟨h.1,PCells.take n h.2⟩
theorem PCells.load{P:Program}{w:World}{M:iB}{i:Nat}: ∀{off:Nat} {ts:List T},PCells w M i off ts→ ∃r:List Value,r.length=ts.length∧(∀j v,r[j]? =some v→w.cell? ⟨i,off+j,none⟩=some v)∧PList w M ts r∧ts.all single=true
 |off,[],h=>⟨[],rfl,by simp,by simp[PList],rfl⟩
 |off,c::cs,h=>by
  simp only[PCells]at h
  obtain⟨⟨v,J,_,K,D⟩,F⟩:=h
  obtain⟨r,H,N,O,I⟩:=PCells.load (P:=P) F
  refine⟨v::r,by simp[H],fun j u U=> ?_, ?_,by simp[D,I]⟩
  ·grind
  ·grind [PList]
theorem J6{P:Program}{β:iL}{G:Sp→Nat→Nat}{w:World}{M:iB}{t:TypeId}{n:Nat}{ag:Bool}{i off o:Nat}{cs:List T}{r:List Value}{v:T}(I:lR P t=some n)(J:uA P t=some ag)
  (hc: ∀j u,r[j]? =some u→w.cell? ⟨i,off+j,none⟩=some u) (D:gP β G w M cs r) (hs:cs.all single=true) (h:Ev.part cs o n ag=some v):
  ∃cv,(loadVar t ⟨i,off+o,none⟩).run P w= .ok cv w∧fx β G w M v cv:=by
 unfold Ev.part at h
 unfold loadVar
 simp only[Sem.run_bind,qQ J,Result.andThen_ok]
 cases ag with
 |true=>
  simp only[if_true]at h ⊢
  split at h
  ·rename_i K
   simp at h;subst h
   have H:=gP.length _ _ D
   have N:((r.drop o).take n).length=n:=by simp;omega
   have:=run_loadCells_list (P:=P) w ⟨i,off+o,none⟩ ((r.drop o).take n) (fun j u F=>by
    rw[kZ]
    rw[List.getElem?_take]at F
    split at F
    ·grind
    ·cases F)
   rw[N]at this
   refine⟨.agg ((r.drop o).take n).toArray,by simp[m8 I,this], ?_⟩
   simp only[fx]
   exact⟨_,rfl,by simpa using gP.take n (gP.drop o D),nw hs _ _⟩
  ·cases h
 |false=>
  simp only[Bool.false_eq_true,if_false]at h ⊢
  obtain⟨cv,O,U⟩:=D.get h
  grind [Go.load,Sem.run]
section
variable{P:Program}{B:l8}{st:St}{a:Act}{w:World}{β:iL}{M:iB}{o:Oper}{v:T}{ups:List Up}
variable(kV:pJ β st.gens w M st.rho a.eval)(h:iU B st w β M)
include h
theorem J7{t:TypeId}{n X:Nat}{ag:Bool}{x:T}{cx:Value}(I:lR P t=some n)(J:uA P t=some ag)(H:fx β st.gens w M x cx)(i:(Hj x n ag).run st.get X=some v):
  ∃ad cv,cx= .pointer (some ad)∧(loadVar t ad).run P w= .ok cv w∧fx β st.gens w M v cv:=by
 unfold Hj at i
 split at i
 ·rename_i cs
  simp only[fx,PRel]at H
  obtain⟨Y,off,rfl,hc⟩:=H
  obtain⟨vs,_,Z,e3,e4⟩:=PCells.load (P:=P) hc
  cases r:Ev.part cs 0 n ag with
  |none=>simp[r,Q.of,Q.run]at i
  |some v'=>
   simp[r,Q.of,Q.run]at i;subst i
   obtain⟨cv,K,N⟩:=J6 (P:=P) (β:=β) (G:=st.gens) (M:=M) I J Z (PList.toV _ _ _ _ e3) e4 r
   grind
 ·rename_i sp k g off
  simp only[Q.run]at i
  split at i
  ·rename_i O
   have U:=h.obj sp k
   generalize he:st.get sp k=e at*
   obtain⟨ge,ob⟩:=e
   dsimp only at O;subst O
   cases ob with
   |none=>simp[Q.run]at i
   |map _ _ _=>simp[Q.run]at i
   |cells cs wm bx=>
    dsimp only at i
    cases r:Ev.part cs off n ag with
    |none=>simp[r,Q.of,Q.run]at i
    |some v'=>
     simp[r,Q.of,Q.run]at i;subst i
     unfold kY at U
     obtain⟨c,el,fz,V,h2,h3,h4,W,h6,h7⟩:=U
     dsimp only at V h2 h3 W
     have U9:gP β st.gens w M cs ((c.toList.drop (β sp k ge).off).take cs.length):=by
      exact W.toV
     simp only[fx]at H
     obtain⟨_,rfl⟩:=H
     have D: ∀j u,((c.toList.drop (β sp k ge).off).take cs.length)[j]? =some u→w.cell? ⟨(β sp k ge).blk,(β sp k ge).off+j,none⟩=some u:=by
      intro j u F
      rw[List.getElem?_take]at F
      split at F
      ·rw[List.getElem?_drop]at F
       unfold World.cell?;rw[V];simpa using F
      ·cases F
     obtain⟨cv,K,N⟩:=J6 (P:=P) I J D U9 h7.1 r
     exact⟨_,cv,rfl,K,N⟩
  ·simp[Q.run]at i
 ·simp[Q.run]at i
include kV
theorem arj{d F:Nat}{t:TypeId}{x:Operand}{i:iF}{n:Nat}{ag:Bool}(H:o.op= .load t x)(hx:lW x=some i)(I:lR P t=some n)(J:uA P t=some ag)
  (r:(jk d st.rho (.ld i n ag)).run st.get F=some (.val v ups)):lB P B st a w β M o v ups:=by
 simp only[jk,Q.run_bind]at r
 cases D:(Hj (st.rho i) n ag).run st.get F with
 |none=>simp[D]at r
 |some O=>
  simp[D,Q.run]at r
  obtain⟨rfl,rfl⟩:=r
  obtain⟨ad,cv,e,K,N⟩:=J7 (P:=P) h I J (kV x i hx) D
  exact iM h (cv:=cv) (by simp[execOp,H,e,Instr.loadAt,Instr.sureAddr,K]) N
theorem ark{d K:Nat}{s:TypeId}{x:Operand}{D:iF}{f n:Nat}{J:Array Field}{fd:Field}(N:o.op= .fieldAddr s x f)(hx:lW x=some D)(hs:P.underlying s=some (.struct J))(O:J[f]? =some fd)(U:lR P fd.type=some n)(V:n≠0)
  (r:(jk d st.rho (.fa D fd.offset)).run st.get K=some (.val v ups)):lB P B st a w β M o v ups:=by
 have F:=kV x D hx
 have H: ∀i off,a.eval x= .pointer (some ⟨i,off,none⟩)→(execOp a.eval o).run P w= .ok (.value (.pointer (some ⟨i,off+fd.offset,none⟩))) w:=by
  intro i off e
  simp[execOp,N,e,Instr.fieldAt,run_underlying hs,O,Instr.sureAddr,fieldPlace,m8 U,V,kZ]
 simp only[jk]at r
 split at r
 ·rename_i cs e
  split at r
  ·rename_i I
   simp[Q.run]at r;obtain⟨rfl,rfl⟩:=r
   rw[e]at F
   simp only[fx,PRel]at F
   obtain⟨i,off,W,hc⟩:=F
   refine iM h (H i off W) ?_
   simp only[fx,PRel]
   exact⟨i,_,rfl,PCells.drop _ hc I⟩
  ·simp[Q.run]at r
 ·grind [Q.run,fx,Nat.add_assoc,iM]
 ·simp[Q.run]at r
theorem ahI{d J:Nat}{s:TypeId}{x:Operand}{r:iF}{f n:Nat}{ag:Bool}{I:Array Field}{fd:Field}(K:o.op= .field s x f)(hx:lW x=some r)(hs:P.underlying s=some (.struct I))(N:I[f]? =some fd)(O:lR P fd.type=some n)(U:uA P fd.type=some ag)
  (i:(jk d st.rho (.fld r fd.offset n ag)).run st.get J=some (.val v ups)):lB P B st a w β M o v ups:=by
 have D:=kV x r hx
 simp only[jk]at i
 split at i
 ·rename_i cs e
  rw[e]at D
  simp only[fx]at D
  obtain⟨V,W,X,F⟩:=D
  cases H:Ev.part cs fd.offset n ag with
  |none=>simp[H,Ev.val,Q.run]at i
  |some v'=>
   simp[H,Ev.val,Q.run]at i;obtain⟨rfl,rfl⟩:=i
   obtain⟨cv,Y,Z⟩:=J5 (P:=P) O U X F H
   exact iM h (cv:=cv) (by simp[execOp,K,W,Instr.field,run_underlying hs,N,asAgg,Y]) Z
 ·simp[Q.run]at i
theorem ahJ{d O:Nat}{t e:TypeId}{x j:Operand}{D F:iF}{len n:Nat}{ag:Bool}(U:o.op= .index t x j)(hx:lW x=some D)(V:lW j=some F)(W:P.underlying t=some (.array len e))(K:lR P e=some n)(X:uA P e=some ag)
  (i:(jk d st.rho (.ixA D F len n ag)).run st.get O=some (.val v ups)):lB P B st a w β M o v ups:=by
 have H:=kV x D hx
 have N:=kV j F V
 simp only[jk]at i
 split at i
 ·rename_i jn cs r Y
  rw[Y]at H
  simp only[fx]at H
  obtain⟨Z,e3,hl,I⟩:=H
  split at i
  ·rename_i oF
   cases J:Ev.part cs (jn*n) n ag with
   |none=>simp[J,Ev.val,Q.run]at i
   |some v'=>
    simp[J,Ev.val,Q.run]at i;obtain⟨rfl,rfl⟩:=i
    unfold asNat at r
    split at r
    ·rename_i k m em
     split at r
     ·rename_i hm
      simp at r;subst r
      rw[em]at N
      have ej:=N.int
      obtain⟨cv,r1,r2⟩:=J5 (P:=P) K X hl I J
      have:0≤m∧m<(len:Int):=by omega
      exact iM h (cv:=cv) (by simp[execOp,U,e3,ej,Instr.index,run_underlying W,asIntOf,this,m8 K,r1]) r2
     ·cases r
    ·cases r
  ·simp[Q.run]at i
 ·simp[Q.run]at i
omit h kV in
theorem nV{t:T}{n:Nat}(e:asNat t=some n): ∃k m,t= .i k m∧0≤m∧m.toNat=n:=by
 unfold asNat at e
 grind
theorem ahK{d K:Nat}{t:TypeId}{x j:Operand}{D F:iF}(N:o.op= .index t x j)(hx:lW x=some D)(O:lW j=some F)(U:P.underlying t=some .string)
  (r:(jk d st.rho (.ixS D F)).run st.get K=some (.val v ups)):lB P B st a w β M o v ups:=by
 have I:=kV x D hx
 have J:=kV j F O
 simp only[jk]at r
 split at r
 ·rename_i jn bs V W
  rw[W]at I
  obtain⟨i,X,rfl⟩:=I.str
  obtain⟨k,m,em,Y,rfl⟩:=nV V
  rw[em]at J
  have Z:=J.int
  split at r
  ·rename_i c hc
   simp[Q.run]at r;obtain⟨rfl,rfl⟩:=r
   unfold bytesN at hc
   rw[List.getElem?_map,Option.map_eq_some_iff]at hc
   obtain⟨u,hu,rfl⟩:=hc
   have MC:i[m.toNat]? =some u:=by
    have:i.data[m.toNat]? =some u:=by simpa using hu
    have oF:=(Array.getElem?_eq_some_iff.1 this).1
    have:i.data[m.toNat]=u:=(Array.getElem?_eq_some_iff.1 this).2
    show(if h:m.toNat<i.size then some i[m.toNat]else none)=some u
    have H:m.toNat<i.size:=oF
    rw[dif_pos H];exact congrArg some this
   exact iM h (cv:= .int .u8 u.toNat) (by simp[execOp,N,X,Z,Instr.index,run_underlying U,asIntOf,Y,MC]) (by simp only[fx])
  ·simp[Q.run]at r
 ·simp[Q.run]at r
theorem arl{d U:Nat}{t e:TypeId}{x j:Operand}{F H:iF}{n:Nat}(V:o.op= .indexAddr t x j)(hx:lW x=some F)(W:lW j=some H)(X:P.underlying t=some (.slice e))(Y:lR P e=some n)
  (r:(jk d st.rho (.ia F H n)).run st.get U=some (.val v ups)):lB P B st a w β M o v ups:=by
 have I:=kV x F hx
 have O:=kV j H W
 have J: ∀(i off len D:Nat) k (m:Int),a.eval x= .slice (some ⟨i,off,none⟩) len D→a.eval j= .int k m→0≤m→m.toNat<len→(execOp a.eval o).run P w= .ok (.value (.pointer (some ⟨i,off+m.toNat*n,none⟩))) w:=by
  intro i off len D k m K N Z h2
  have:0≤m∧m<(len:Int):=by omega
  simp[execOp,V,K,N,Instr.indexAt,run_underlying X,asIntOf,this,m8 Y,kZ]
 simp only[jk]at r
 split at r
 ·rename_i jn cs len ex K N
  split at r
  ·rename_i hc
   simp[Q.run]at r;obtain⟨rfl,rfl⟩:=r
   simp at hc
   obtain⟨k,m,em,hm,rfl⟩:=nV K
   rw[N]at I;rw[em]at O
   simp only[fx,PRel]at I
   obtain⟨i,off,D,sp,e3,Z,h2,h5,h3⟩:=I
   obtain rfl:sp=none:=h5.resolve_right (by have:=hc.1;omega)
   refine iM h (J _ _ _ _ _ _ e3 O.int hm hc.1) ?_
   simp only[fx,PRel]
   exact⟨_,_,rfl,PCells.drop _ h3 (by have:=hc.2;rw[Nat.add_mul]at this;omega)⟩
  ·simp[Q.run]at r
 ·grind [Q.run,fx,Nat.add_assoc,nV,iM]
 ·simp[Q.run]at r
theorem ahL{d O:Nat}{t e:TypeId}{x j:Operand}{D F:iF}{len n:Nat}(U:o.op= .indexAddr t x j)(hx:lW x=some D)(V:lW j=some F)(W:P.underlying t=some (.array len e))(X:lR P e=some n)
  (r:(jk d st.rho (.iaA D F len n)).run st.get O=some (.val v ups)):lB P B st a w β M o v ups:=by
 have H:=kV x D hx
 have N:=kV j F V
 have I: ∀(i off:Nat) k (m:Int),a.eval x= .pointer (some ⟨i,off,none⟩)→a.eval j= .int k m→0≤m→m.toNat<len→(execOp a.eval o).run P w= .ok (.value (.pointer (some ⟨i,off+m.toNat*n,none⟩))) w:=by
  intro i off k m J K h1 h2
  have:0≤m∧m<(len:Int):=by omega
  simp[execOp,U,J,K,Instr.indexAt,run_underlying W,asIntOf,Instr.sureAddr,this,m8 X,kZ]
 simp only[jk]at r
 split at r
 ·rename_i jn cs J K
  split at r
  ·rename_i hc
   simp[Q.run]at r;obtain⟨rfl,rfl⟩:=r
   simp at hc
   obtain⟨k,m,em,Y,rfl⟩:=nV J
   rw[K]at H;rw[em]at N
   simp only[fx,PRel]at H
   obtain⟨i,off,Z,h3⟩:=H
   refine iM h (I _ _ _ _ Z N.int Y hc.1) ?_
   simp only[fx,PRel]
   exact⟨_,_,rfl,PCells.drop _ h3 (by have:=hc.2;rw[Nat.add_mul]at this;omega)⟩
  ·simp[Q.run]at r
 ·grind [Q.run,fx,Nat.add_assoc,nV,iM]
 ·simp[Q.run]at r
end
end Go.Ev
namespace Go.Ev
open Go
theorem DD(s:ByteArray)(l h:Nat):bytesN (s.extract l h)=((bytesN s).drop l).take (h-l):=by
 unfold bytesN
 simp_all
theorem lC{P:Program}{w:World}{k:IntKind}{m:Int}{y:Nat}{code:BoundsCode}(i:0≤m)(r:m.toNat≤y):(Instr.sliceBound (.int k m) y code).run P w= .ok m.toNat w:=by
 have:0≤m∧m≤(y:Int):=by omega
 simp[Instr.sliceBound,asIntOf,this]
section
variable{P:Program}{B:l8}{st:St}{a:Act}{w:World}{β:iL}{M:iB}{o:Oper}{v:T}{ups:List Up}
variable(kV:pJ β st.gens w M st.rho a.eval)(h:iU B st w β M)
include kV in
theorem vR{x:Option Operand}{r:Option iF}{i n:Nat}(hx:uz x=some r)(e:kN st.rho i r=some n):
  (x=none∧r=none∧n=i)∨ ∃y k m,x=some y∧a.eval y= .int k m∧0≤m∧m.toNat=n:=by
 cases x with
 |none=>grind [uz,kN]
 |some y=>
  simp only[uz,Option.map_eq_some_iff]at hx
  obtain⟨D,F,rfl⟩:=hx
  simp only[kN]at e
  obtain⟨k,m,em,H,I⟩:=nV e
  have:=kV y D F
  rw[em]at this
  exact .inr ⟨y,k,m,rfl,this.int,H,I⟩
include kV in
theorem uu{lo hi:Option Operand}{r Hp:Option iF}{isS:Bool}{len i l F:Nat}(I:uz lo=some r)(J:uz hi=some Hp)(K:kN st.rho 0 r=some l)(N:kN st.rho len Hp=some F)
  (H:l≤F) (hc:F≤len) (D:len≤i):(Instr.sliceBounds isS len i (lo.map a.eval) (hi.map a.eval) none).run P w= .ok (l,F,i) w:=by
 unfold Instr.sliceBounds
 rcases vR kV I K with⟨rfl,rfl,rfl⟩|⟨y,k,m,rfl,ey,hm,rfl⟩ <;> rcases vR kV J N with⟨rfl,rfl,rfl⟩|⟨y2,k2,m2,rfl,ey2,hm2,rfl⟩
 ·simp
 ·simp[ey2,lC hm2 (Nat.le_trans hc D)]
 ·simp[ey,lC hm H]
 ·simp[ey,ey2,lC hm2 (Nat.le_trans hc D),lC hm H]
include kV h
theorem ahM{d J:Nat}{t:TypeId}{x:Operand}{D:iF}{lo hi:Option Operand}{r Hp:Option iF}(K:o.op= .slice t x lo hi none)(hx:lW x=some D)(N:uz lo=some r)(O:uz hi=some Hp)(U:P.underlying t=some .string)
  (i:(jk d st.rho (.slS D r Hp)).run st.get J=some (.val v ups)):lB P B st a w β M o v ups:=by
 have F:=kV x D hx
 simp only[jk]at i
 split at i
 ·rename_i X e
  rw[e]at F
  obtain⟨s,es,rfl⟩:=F.str
  split at i
  ·rename_i l H V I
   split at i
   ·rename_i hc
    simp at hc
    simp[Q.run]at i;obtain⟨rfl,rfl⟩:=i
    rw[mF]at I hc
    have W:=uu (P:=P) (w:=w) (isS:=false) kV N O V I hc.1 hc.2 (Nat.le_refl _)
    refine iM h (cv:= .string (s.extract l H)) ?_ (by simp only[fx];exact⟨_,rfl,DD s l H⟩)
    simp[execOp,K,es,Instr.sliceAt,run_underlying U,Instr.slice,W]
   ·simp[Q.run]at i
  ·simp[Q.run]at i
 ·simp[Q.run]at i
theorem ahN{d nx:Nat}{t e:TypeId}{n:Nat}{x:Operand}{V:iF}{lo hi mx:Option Operand}{N Hp W:Option iF}(ho:o.op= .slice t x lo hi mx)(hx:lW x=some V)(h1:uz lo=some N)(h2:uz hi=some Hp)(h3:uz mx=some W)
  (ht:P.underlying t=some (.slice e)) (hn:lR P e=some n) (h0:n≠0) (hmx:mx.isSome=true→hi.isSome=true)
  (F:(jk d st.rho (.slV n V N Hp W)).run st.get nx=some (.val v ups)):lB P B st a w β M o v ups:=by
 have H:=kV x V hx
 simp only[jk]at F
 cases r:sF (st.rho V)with
 |none=>grind [Q.run]
 |some len=>
  simp only[r]at F
  cases X:kN st.rho 0 N with
  |none=>simp[X,Q.run]at F
  |some l=>
   cases e2:kN st.rho len Hp with
   |none=>grind [Q.run]
   |some K=>
    cases mx with
    |none=>
     simp[uz]at h3;subst h3
     simp only[X,e2,Q.run_bind]at F
     have I: ∀(ad:Option Addr) i,a.eval x= .slice ad len i→l≤K→K≤len→len≤i→
       (execOp a.eval o).run P w= .ok (.value (.slice (if i=l then ad else ad.map (·.add (l*n))) (K-l) (i-l))) w:=by
      intro ad i ex DE Cm hl3
      have hb:=uu (P:=P) (w:=w) (isS:=true) kV h1 h2 X e2 DE Cm hl3
      simp[execOp,ho,ex,Instr.sliceAt,run_underlying ht,Instr.slice,hb,m8 hn]
     cases hs:(Bt n (st.rho V) l K).run st.get nx with
     |none=>simp[hs]at F
     |some v'=>
      simp[hs,Q.run]at F;obtain⟨rfl,rfl⟩:=F
      unfold Bt at hs
      split at hs
      ·grind [Q.run,sF,fx,iM]
      ·rename_i cs Va ex' ex
       rw[ex]at H r
       simp[sF]at r;subst r
       split at hs
       ·rename_i hc
        simp[Q.run]at hs;subst hs
        simp at hc
        obtain⟨⟨c1,c2⟩,c3⟩:=hc
        simp only[fx,PRel]at H
        obtain⟨D,off,i,sp,J,p1,p2,p4,p3⟩:=H
        refine iM h (I _ _ J c1 c2 p1) ?_
        simp only[fx,PRel]
        by_cases DF:i=l
        ·rw[if_pos DF]
         have:K=l:=by omega
         subst this
         refine⟨D,off,i-K,sp,by simp,by omega,fun O=>by omega,.inr (by omega), ?_⟩
         simp[PCells]
        ·rw[if_neg DF]
         obtain rfl:sp=none:=p4.resolve_right (by omega)
         refine⟨D,off+l*n,i-l,none,by simp[kZ],by omega,fun O=> ?_,.inl rfl, ?_⟩
         ·simp at O
          have:=p2 O.1
          omega
         ·refine PCells.take _ (PCells.drop _ p3 ?_)
          rw[c3];exact Nat.mul_le_mul_right n (Nat.le_trans c1 c2)
       ·simp[Q.run]at hs
      ·rename_i sp k g off Va sz ex
       rw[ex]at H r
       simp[sF]at r;subst r
       split at hs
       ·rename_i hc
        simp[Q.run]at hs;subst hs
        simp at hc
        obtain⟨⟨c1,c2⟩,rfl⟩:=hc
        simp only[fx]at H
        obtain⟨q1,i,J,p1,p2⟩:=H
        refine iM h (I _ _ J c1 c2 p1) ?_
        by_cases Y:l=K
        ·subst Y
         rw[if_pos rfl]
         by_cases Z:sp= .S∧l=0∧off=0
         ·rw[if_pos Z]
          obtain⟨_,rfl,rfl⟩:=Z
          simp only[fx]
          refine⟨q1,i, ?_,Nat.zero_le _,p2⟩
          by_cases DF:i=0
          ·rw[if_pos DF];simp
          ·rw[if_neg DF];simp[kZ]
         rw[if_neg Z]
         simp only[fx,PRel]
         by_cases DF:i=l
         ·rw[if_pos DF]
          exact⟨(β sp k g).blk,(β sp k g).off+off,i-l,none,by simp,by omega,(fun e=>by cases e),.inl rfl,by simp[PCells]⟩
         ·rw[if_neg DF]
          exact⟨(β sp k g).blk,(β sp k g).off+off+l*sz,i-l,none,by simp[kZ],by omega,(fun e=>by cases e),.inl rfl,by simp[PCells]⟩
        ·rw[if_neg Y,if_neg (by omega)]
         simp only[fx]
         refine⟨q1,i-l,by simp[kZ,Nat.add_assoc],by omega, ?_⟩
         have:(i-l)*sz+l*sz=i*sz:=by rw[←Nat.add_mul];congr 1;omega
         omega
       ·simp[Q.run]at hs
      ·simp[Q.run]at hs
    |some m=>
     simp only[uz,Option.map_eq_some_iff]at h3
     obtain⟨m',hm',rfl⟩:=h3
     have vm:=kV m m' hm'
     have I: ∀(ad:Option Addr) i,a.eval x= .slice ad len i→ ∀k (z:Int),a.eval m= .int k z→z=0→l=0→K=0→
       (execOp a.eval o).run P w= .ok (.value (.slice ad 0 0)) w:=by
      intro ad i ex k z em Z Bx hh0
      subst Z;subst Bx;subst hh0
      have hb:(Instr.sliceBounds true len i (lo.map a.eval) (hi.map a.eval) (some (.int k 0))).run P w= .ok (0,0,0) w:=by
       unfold Instr.sliceBounds
       rcases vR kV h2 e2 with⟨rfl,rfl,ZK⟩|⟨y2,k2,m2,rfl,ey2,hm2,hz2⟩
       ·simp at hmx
       ·have b1:=lC (P:=P) (w:=w) (k:=k) (m:=0) (y:=i) (code:= .slice3Acap) (by omega) (by simp)
        have b2:=lC (P:=P) (w:=w) (k:=k2) (m:=m2) (y:=0) (code:= .slice3B) hm2 (by omega)
        rcases vR kV h1 X with⟨rfl,rfl,_⟩|⟨y,k1,m1,rfl,ey,hm,hz1⟩
        ·simp_all
        ·have b3:=lC (P:=P) (w:=w) (k:=k1) (m:=m1) (y:=m2.toNat) (code:= .slice3C) hm (by omega)
         simp_all
      cases ad <;> simp[execOp,ho,ex,em,Instr.sliceAt,run_underlying ht,Instr.slice,hb,m8 hn]
     simp only[X,e2]at F
     cases em:asNat (st.rho m')with
     |none=>simp[em,Q.run]at F
     |some z=>
      obtain⟨km,zm,ez,hz1,hz2⟩:=nV em
      rw[ez]at vm
      have vm':=vm.int
      split at F
      ·grind [fx,sF,Q.run,iM]
      ·rename_i U mB
       rw[em]at U
       simp at U;subst U
       split at F
       ·rename_i hc
        simp at hc
        simp[Q.run]at F;obtain⟨rfl,rfl⟩:=F
        have: ∃D off i sp,a.eval x= .slice (some ⟨D,off,sp⟩) len i:=by
         generalize st.rho V=tx at*
         cases tx <;> simp[sF]at r
         case nilsl=>exact absurd rfl mB
         case sl cs Va ex=>
          subst r
          simp only[fx,PRel]at H
          obtain⟨D,off,i,sp,J,_⟩:=H
          exact⟨D,off,i,sp,J⟩
         case isl sp k g off Va sz=>
          subst r
          simp only[fx]at H
          obtain⟨_,i,J,_⟩:=H
          exact⟨_,_,i,none,J⟩
        obtain⟨D,off,i,sp,J⟩:=this
        refine iM h (I _ _ J km zm vm' (by omega) hc.1 hc.2) ?_
        simp only[fx,PRel]
        exact⟨D,off,0,sp,rfl,Nat.le_refl _,fun _=>rfl,.inr rfl,by simp[PCells]⟩
       ·simp[Q.run]at F
      ·simp[Q.run]at F
end
end Go.Ev
namespace Go.Ev
open Go
section
variable{P:Program}{B:l8}{st:St}{a:Act}{w:World}{β:iL}{M:iB}{o:Oper}{v:T}{ups:List Up}
theorem MD{D:Bool}{x y:T}{F:List T}{r:T}(h:nJ D x (y::F)=some r): ∃k n,x= .i k n:=by
 unfold nJ at h
 grind
theorem ll{c:Call}{b:Builtin}(i:o.op= .call c)(r:c.callee= .builtin b):
  (execOp a.eval o).run P w=(builtin b c.argTypes o.type (c.args.map fun| .const _=>true|_=>false) (c.args.map a.eval)).run P w:=by
 simp only[execOp,i,resolve,r,Sem.run_bind]
 rfl
theorem yF{args:Array Operand}{x:Operand}(h:args.toList= [x])(f:Operand→Value):args.map f= #[f x]:=by
 apply Array.ext';simp[h]
theorem aaB{args:Array Operand}{x y:Operand}(h:args.toList= [x,y])(f:Operand→Value):args.map f= #[f x,f y]:=by
 apply Array.ext';simp[h]
variable(kV:pJ β st.gens w M st.rho a.eval)(h:iU B st w β M)
include kV h
theorem aaC{d F:Nat}{c:Call}{t:TypeId}{x:Operand}{r:iF}(H:o.op= .call c)(I:c.callee= .builtin .len)(J:c.argTypes[0]? =some t)(K:c.args.toList= [x])(N:P.underlying t=some .string)(hx:lW x=some r)
  (i:(jk d st.rho (.lenS r)).run st.get F=some (.val v ups)):lB P B st a w β M o v ups:=by
 have D:=kV x r hx
 simp only[jk]at i
 split at i
 ·rename_i O e
  simp[Q.run]at i;obtain⟨rfl,rfl⟩:=i
  rw[e]at D
  obtain⟨s,es,rfl⟩:=D.str
  refine iM h (cv:= .int .i64 s.size) ?_ (by simp only[fx,mF])
  rw[ll H I,yF K]
  simp[builtin,Builtin.len_,J,es,run_underlying N,goInt]
 ·simp[Q.run]at i
theorem aaD{d H:Nat}{c:Call}{t e:TypeId}{x:Operand}{i:iF}(I:o.op= .call c)(J:c.callee= .builtin .len)(K:c.argTypes[0]? =some t)(N:c.args.toList= [x])(O:P.underlying t=some (.slice e))(hx:lW x=some i)
  (D:(jk d st.rho (.lenV i)).run st.get H=some (.val v ups)):lB P B st a w β M o v ups:=by
 have W:=kV x i hx
 simp only[jk]at D
 cases F:sF (st.rho i)with
 |none=>simp[F,Ev.val,Q.run]at D
 |some n=>
  simp[F,Ev.val,Q.run]at D;obtain⟨rfl,rfl⟩:=D
  have: ∃ad r,a.eval x= .slice ad n r:=by
   generalize st.rho i=U at*
   cases U <;> simp[sF]at F
   case nilsl=>grind [fx]
   case sl cs Va ex=>grind [fx,PRel]
   grind [fx]
  obtain⟨ad,r,V⟩:=this
  refine iM h (cv:= .int .i64 n) ?_ (by simp only[fx])
  rw[ll I J,yF N]
  simp[builtin,Builtin.len_,K,V,run_underlying O,goInt]
theorem aaE{d Z:Nat}{c:Call}{t kt et:TypeId}{x:Operand}{J:iF}(O:o.op= .call c)(U:c.callee= .builtin .len)(V:c.argTypes[0]? =some t)(W:c.args.toList= [x])(X:P.underlying t=some (.map kt et))(hx:lW x=some J)
  (r:(jk d st.rho (.lenM J)).run st.get Z=some (.val v ups)):lB P B st a w β M o v ups:=by
 have F:=kV x J hx
 have H: ∀D es i,a.eval x= .map (some D)→w.heap[D]? =some (.map es i)→(execOp a.eval o).run P w= .ok (.value (.int .i64 es.size)) w:=by
  intro D es i K I
  rw[ll O U,yF W]
  simp[builtin,Builtin.len_,V,K,run_underlying X,goInt,getObj,Sem.run,I]
 simp only[jk]at r
 split at r
 ·rename_i e
  simp[Q.run]at r;obtain⟨rfl,rfl⟩:=r
  rw[e]at F;simp only[fx]at F
  refine iM h (cv:= .int .i64 0) ?_ (by simp only[fx])
  rw[ll O U,yF W]
  simp[builtin,Builtin.len_,V,F,run_underlying X,goInt]
 ·rename_i ks vs e
  simp[Q.run]at r;obtain⟨rfl,rfl⟩:=r
  rw[e]at F;simp only[fx,PRel]at F
  obtain⟨D,es,i,K,I,_,_,N,_⟩:=F
  refine iM h (H D es i K I) ?_
  simp only[fx]
  have:=PList.length _ _ N
  grind
 ·rename_i sp k g e
  simp only[Q.run]at r
  split at r
  ·rename_i Y
   have B2:=h.obj sp k
   generalize he:st.get sp k=en at*
   obtain⟨ge,ob⟩:=en
   dsimp only at Y;subst Y
   cases ob with
   |none=>simp[Q.run]at r
   |cells _ _ _=>simp[Q.run]at r
   |map ks vs f=>
    simp[Q.run]at r;obtain⟨rfl,rfl⟩:=r
    rw[e]at F;simp only[fx]at F
    unfold kY at B2
    obtain⟨es,i,I,_,N,_⟩:=B2
    refine iM h (H _ es i F.2 I) ?_
    simp only[fx]
    have:=PList.length _ _ N
    simp at this;rw[this]
  ·simp[Q.run]at r
 ·simp[Q.run]at r
omit kV in
theorem aaF{c:Call}{t e:TypeId}{n:Nat}{x:Operand}(r:o.op= .call c)(D:c.callee= .builtin .len)(F:c.argTypes[0]? =some t)(H:c.args.toList= [x])(I:P.underlying t=some (.array n e)):
  lB P B st a w β M o (.i .i64 n) []:=by
 refine iM h (cv:= .int .i64 n) ?_ (by simp only[fx])
 rw[ll r D,yF H]
 simp[builtin,Builtin.len_,F,run_underlying I,goInt]
omit kV h in
theorem OM{k:IntKind}: ∀(D:List T) (H:List Value) (x:Int) (r:T),gP β st.gens w M D H→nJ false (.i k x) D=some r→ ∃n,r= .i k n∧(H.foldlM Builtin.min2 (.int k x)).run P w= .ok (.int k n) w
 | [],H,x,r,I,F=>by
   simp_all[gP,nJ]
 |t::ts,H,x,r,I,F=>by
  simp only[gP]at I
  obtain⟨u,us,rfl,J,K⟩:=I
  cases t <;> simp only[nJ]at F <;> try (cases F;done)
  rename_i k' y
  split at F
  ·rename_i hk;subst hk
   have:=J.int;subst this
   obtain⟨n,N,O⟩:=OM ts us _ r K F
   grind [Sem.run_bind,Builtin.min2,Sem.run_pure,Result.andThen_ok]
  ·cases F
omit kV h in
theorem ON{k:IntKind}: ∀(D:List T) (H:List Value) (x:Int) (r:T),gP β st.gens w M D H→nJ true (.i k x) D=some r→ ∃n,r= .i k n∧(H.foldlM Builtin.max2 (.int k x)).run P w= .ok (.int k n) w
 | [],H,x,r,I,F=>by
   simp_all[gP,nJ]
 |t::ts,H,x,r,I,F=>by
  simp only[gP]at I
  obtain⟨u,us,rfl,J,K⟩:=I
  cases t <;> simp only[nJ]at F <;> try (cases F;done)
  rename_i k' y
  split at F
  ·rename_i hk;subst hk
   have:=J.int;subst this
   obtain⟨n,N,O⟩:=ON ts us _ r K F
   grind [Sem.run_bind,Builtin.max2,Sem.run_pure,Result.andThen_ok]
  ·cases F
theorem afD{d Z:Nat}{i:Bool}{c:Call}{as:List iF}(J:o.op= .call c)(K:c.callee= .builtin (if i then .max else .min))(ha:AG c.args.toList=some as)
  (H:(jk d st.rho (.mm i as)).run st.get Z=some (.val v ups)):lB P B st a w β M o v ups:=by
 have N:=vQ kV ha
 simp only[jk]at H
 split at H
 ·rename_i x D e
  cases F:nJ i x D with
  |none=>simp[F,Ev.val,Q.run]at H
  |some r=>
   simp[F,Ev.val,Q.run]at H;obtain⟨rfl,rfl⟩:=H
   rw[e]at N
   simp only[gP]at N
   obtain⟨u,us,O,W,I⟩:=N
   cases D with
   |nil=>
    simp[nJ]at F;subst F
    simp only[gP]at I;subst I
    refine iM h (cv:=u) ?_ W
    rw[ll J K]
    cases i <;> simp[builtin,Builtin.min_,Builtin.max_,O]
   |cons y X=>
    obtain⟨k,Y,rfl⟩:=MD F
    have:=W.int;subst this
    cases i with
    |false=>
     obtain⟨n,U,V⟩:=OM (P:=P) (y::X) us Y r I F
     subst U
     refine iM h (cv:= .int k n) ?_ (by simp only[fx])
     rw[ll J K]
     simp[builtin,Builtin.min_,O,V]
    |true=>
     obtain⟨n,U,V⟩:=ON (P:=P) (y::X) us Y r I F
     subst U
     refine iM h (cv:= .int k n) ?_ (by simp only[fx])
     rw[ll J K]
     simp[builtin,Builtin.max_,O,V]
 ·simp[Q.run]at H
end
theorem tD{P:Program}{t:TypeId}{k:CK}(h:wo P t=some k):match k with| .int=> ∃i,P.underlying t=some (.int i)| .str=>P.underlying t=some .string| .bool=>P.underlying t=some .bool:=by
 grind [wo]
theorem xm{P:Program}{β:iL}{G:Sp→Nat→Nat}{w:World}{M:iB}{t:TypeId}{k:CK}{x y:T}{cx cy:Value}{r:Bool}(d:Nat)(hk:wo P t=some k)(hx:fx β G w M x cx)(D:fx β G w M y cy)(h:lO k x y=some r):
  (Op.equalIn (d+1) t cx cy).run P w= .ok r w:=by
 have i:=tD hk
 unfold lO at h
 split at h
 ·simp at h;subst h
  rw[hx.bool,D.bool]
  exact run_equalIn_bool' w d t _ _ i
 ·split at h
  ·rename_i e;subst e
   simp at h;subst h
   obtain⟨F,i⟩:=i
   rw[hx.int,D.int]
   exact run_equalIn_int w d t _ F _ _ i
  ·cases h
 ·simp at h;subst h
  obtain⟨bx,H,rfl⟩:=hx.str
  obtain⟨bY,I,rfl⟩:=D.str
  rw[H,I,run_equalIn_string w d t _ _ i,kI,kI,mQ]
 ·cases h
theorem yG{P:Program}{β:iL}{G:Sp→Nat→Nat}{w:World}{M:iB}(d:Nat){I J:Array Value}{xs F:List T}(hx:gP β G w M xs I.toList)(V:gP β G w M F J.toList):
  ∀(H:List Field) (i:Nat) (ks:List CK) (r:Bool),od P i H=some ks→jK ks (xs.drop i) (F.drop i)=some r→(Op.eqFields (d+1) I J H).run P w= .ok r w
 | [],i,ks,r,hk,D=>by
   simp[od]at hk;subst hk
   generalize xs.drop i=X at D
   generalize F.drop i=yd at D
   cases X <;> cases yd <;> simp[jK]at D
   subst D;simp[Op.eqFields]
 |f::H,i,ks,r,hk,D=>by
  simp only[od]at hk
  split at hk
  ·rename_i hc
   simp at hc
   obtain⟨⟨c1,Y⟩,c3⟩:=hc
   split at hk
   ·rename_i k K W Z
    simp at hk;subst hk
    cases DG:xs.drop i with
    |nil=>grind [jK]
    |cons x xr=>
     cases OO:F.drop i with
     |nil=>grind [jK]
     |cons y yr=>
      rw[DG,OO]at D
      simp only[jK]at D
      have gx:xs[i]? =some x:=by have:=congrArg (·[0]?) DG;simpa using this
      have gy:F[i]? =some y:=by have:=congrArg (·[0]?) OO;simpa using this
      obtain⟨cx,ax,vx⟩:=hx.get gx
      obtain⟨cy,ay,vy⟩:=V.get gy
      have agg:uA P f.type=some false:=by
       have:=tD W
       grind [uA]
      have qG:(Go.part f.type I f.offset).run P w= .ok cx w:=by
       simp_all[Go.part,Sem.run_bind,qQ,Result.andThen_ok]
      have N:(Go.part f.type J f.offset).run P w= .ok cy w:=by
       simp_all[Go.part,Sem.run_bind,qQ,Result.andThen_ok]
      have O:xs.drop (i+1)=xr:=by rw[←List.drop_drop,DG];rfl
      have U:F.drop (i+1)=yr:=by rw[←List.drop_drop,OO];rfl
      simp only[Op.eqFields,if_pos (show f.name≠ "_" from Y),Sem.run_bind,qG,N,Result.andThen_ok]
      cases hc:lO k x y with
      |none=>simp[hc]at D
      |some b=>
       rw[xm d W vx vy hc]
       cases b with
       |false=>simp[hc]at D;subst D;simp
       |true=>
        simp only[hc]at D
        simp only[Result.andThen_ok,Bool.not_true,Bool.false_eq_true,if_false]
        exact yG d hx V H (i+1) K r Z (by rw[O,U];exact D)
   ·cases hk
  ·cases hk
theorem By{P:Program}{β:iL}{G:Sp→Nat→Nat}{w:World}{M:iB}(d:Nat){e:TypeId}{k:CK}(hk:wo P e=some k){I J:Array Value}{xs F:List T}(hx:gP β G w M xs I.toList)(U:gP β G w M F J.toList):
  ∀(n i:Nat) (r:Bool),jK (List.replicate n k) (xs.drop i) (F.drop i)=some r→(Op.eqItems (d+1) e 1 I J (List.range' i n)).run P w= .ok r w
 |0,i,r,D=>by
  generalize xs.drop i=V at D
  generalize F.drop i=yd at D
  cases V <;> cases yd <;> simp[jK]at D
  subst D;simp[Op.eqItems]
 |n+1,i,r,D=>by
  rw[List.replicate_succ]at D
  cases DG:xs.drop i with
  |nil=>rw[DG]at D;cases F.drop i <;> simp[jK]at D
  |cons x W=>
   cases OO:F.drop i with
   |nil=>rw[DG,OO]at D;simp[jK]at D
   |cons y X=>
    rw[DG,OO]at D
    simp only[jK]at D
    have gx:xs[i]? =some x:=by have:=congrArg (·[0]?) DG;simpa using this
    have gy:F[i]? =some y:=by have:=congrArg (·[0]?) OO;simpa using this
    obtain⟨cx,Y,Z⟩:=hx.get gx
    obtain⟨cy,ay,vy⟩:=U.get gy
    have H:uA P e=some false:=by
     have:=tD hk
     unfold uA
     cases k
     ·obtain⟨ik,e⟩:=this;simp[e]
     ·simp[this]
     ·simp[this]
    have qG:(Go.part e I (i*1)).run P w= .ok cx w:=by
     unfold Go.part;simp only[Sem.run_bind,qQ H,Result.andThen_ok]
     have:I[i]? =some cx:=by simpa using Y
     simp[this]
    have K:(Go.part e J (i*1)).run P w= .ok cy w:=by
     unfold Go.part;simp only[Sem.run_bind,qQ H,Result.andThen_ok]
     have:J[i]? =some cy:=by simpa using ay
     simp[this]
    have N:xs.drop (i+1)=W:=by rw[←List.drop_drop,DG];rfl
    have O:F.drop (i+1)=X:=by rw[←List.drop_drop,OO];rfl
    simp only[List.range'_succ,Op.eqItems,Sem.run_bind,qG,K,Result.andThen_ok]
    cases hc:lO k x y with
    |none=>simp[hc]at D
    |some b=>
     rw[xm d hk Z vy hc]
     cases b with
     |false=>simp[hc]at D;subst D;simp
     |true=>
      simp only[hc]at D
      simp only[Result.andThen_ok,Bool.not_true,Bool.false_eq_true,if_false]
      exact By d hk hx U n (i+1) r (by rw[N,O];exact D)
theorem qR{P:Program}{t:TypeId}{k:EK}(h:Dw P t=some k):match k with
  | .one c=>wo P t=some c
  | .flat ks=>P.eqGuardType P.depth t=false∧((∃i,P.underlying t=some (.struct i)∧P.stoodInHeld t=false∧od P 0 i.toList=some ks)∨ ∃n e c,P.underlying t=some (.array n e)∧P.cellsOf e=1∧wo P e=some c∧ks=List.replicate n c)
  | .sl=> ∃e,P.underlying t=some (.slice e)
  | .ptr=> ∃e,P.underlying t=some (.pointer e)
  | .map=> ∃a b,P.underlying t=some (.map a b):=by
 unfold Dw at h
 split at h
 ·simp at h;subst h;rename_i e;simp[wo,e]
 ·simp at h;subst h;rename_i e;simp[wo,e]
 ·simp at h;subst h;rename_i e;simp[wo,e]
 ·simp at h;subst h;rename_i x e;exact⟨x,e⟩
 ·simp at h;subst h;rename_i x e;exact⟨x,e⟩
 ·simp at h;subst h;rename_i x y e;exact⟨x,y,e⟩
 ·rename_i i e
  split at h
  ·rename_i hc
   simp only[Option.map_eq_some_iff]at h
   obtain⟨ks,r,rfl⟩:=h
   simp at hc
   exact⟨hc.1,.inl ⟨i,e,hc.2,r⟩⟩
  ·cases h
 ·rename_i n e D
  split at h
  ·rename_i hc
   simp only[Option.map_eq_some_iff]at h
   obtain⟨c,r,rfl⟩:=h
   simp at hc
   exact⟨hc.1,.inr ⟨n,e,c,D,hc.2,r,rfl⟩⟩
  ·cases h
 ·cases h
theorem B3{P:Program}(w:World)(d:Nat)(t e:TypeId)(p:Option Addr)(h:P.underlying t=some (.pointer e)):(Op.equalIn (d+1) t (.pointer p) (.pointer none)).run P w= .ok p.isNone w:=by
 cases p <;> simp[Op.equalIn,run_underlying h]
theorem se{P:Program}(w:World)(t e:TypeId)(p:Option Addr)(h:P.underlying t=some (.pointer e)):(Op.equal t (.pointer p) (.pointer none)).run P w= .ok p.isNone w:=B3 w 9999 t e p h
theorem OP{P:Program}{β:iL}{G:Sp→Nat→Nat}{w:World}{M:iB}{t:TypeId}{k:EK}{x y:T}{cx cy:Value}{r:Bool}(hk:Dw P t=some k)(hx:fx β G w M x cx)(F:fx β G w M y cy)(h:uP k x y=some r):
  (Op.equal t cx cy).run P w= .ok r w:=by
 have D:=qR hk
 unfold uP at h
 split at h
 ·exact xm 9999 D hx F h
 ·rename_i ks xs ys
  simp only[fx]at hx F
  obtain⟨O,rfl,U,_⟩:=hx
  obtain⟨V,rfl,W,_⟩:=F
  obtain⟨u2,⟨Y,J,N,K⟩|⟨n,e,c,J,N,K,rfl⟩⟩:=D
  ·have X:P.fieldsOf t=Y:=by simp[Program.fieldsOf,J]
   have:=run_equalIn_struct w 9999 t O V (by rw[X];exact J) N
   rw[X]at this
   exact this.trans (yG 9998 U W _ 0 ks r K (by simpa using h))
  ·obtain⟨Z,hi⟩: ∃i,P.info? e=some i:=by
    cases H:P.underlying e with
    |none=>simp[wo,H]at K
    |some _=>exact info_of_underlying H
   have:=run_equalIn_array w 9999 O V J hi
   rw[N,List.range_eq_range']at this
   exact this.trans (By 9998 K U W n 0 r (by simpa using h))
 ·simp at h;subst h
  obtain⟨e,D⟩:=D
  simp only[fx]at hx F;subst hx;subst F
  exact run_equal_slice_nil w t e _ _ _ D
 ·simp at h;subst h
  obtain⟨e,D⟩:=D
  simp only[fx,PRel]at hx F
  obtain⟨_,_,_,_,rfl,_⟩:=hx;subst F
  exact run_equal_slice_nil w t e _ _ _ D
 ·simp at h;subst h
  obtain⟨e,D⟩:=D
  simp only[fx]at hx F
  obtain⟨_,_,rfl,_⟩:=hx;subst F
  exact run_equal_slice_nil w t e _ _ _ D
 ·grind [fx,se]
 ·grind [fx,PRel,se]
 ·grind [fx,se]
 ·simp at h;subst h
  obtain⟨e,I,D⟩:=D
  simp only[fx]at hx F;subst hx;subst F
  exact run_equal_map_nil w t e I _ D
 ·simp at h;subst h
  obtain⟨e,I,D⟩:=D
  simp only[fx,PRel]at hx F
  obtain⟨_,_,_,rfl,_⟩:=hx;subst F
  exact run_equal_map_nil w t e I _ D
 ·simp at h;subst h
  obtain⟨e,I,D⟩:=D
  simp only[fx]at hx F
  obtain⟨_,rfl⟩:=hx;subst F
  exact run_equal_map_nil w t e I _ D
 ·cases h
end Go.Ev
namespace Go.Ev
open Go
section
variable{P:Program}{B:l8}{st:St}{a:Act}{w:World}{β:iL}{M:iB}{o:Oper}{v:T}{ups:List Up}
variable(kV:pJ β st.gens w M st.rho a.eval)(h:iU B st w β M)
include kV h in
theorem OQ{neg:Bool}{k:EK}{t X:TypeId}{x y:Operand}{N O:iF}(W:o.op= .binOp (if neg then .neq else .eql) t x y X)(hx:lW x=some N)(Y:lW y=some O)(hk:Dw P t=some k)(hn:k≠ .one .int∧k≠ .one .str){r:Bool}
  (J:uP k (st.rho N) (st.rho O)=some r):lB P B st a w β M o (.b (r != neg)) []:=by
 have D:=kV x N hx
 have F:=kV y O Y
 have V:=OP (P:=P) hk D F J
 have Z:=qR hk
 refine iM h (cv:= .bool (r != neg)) ?_ (by simp only[fx])
 generalize st.rho N=tx at*
 generalize st.rho O=ty at*
 have i: ∀cx cy,a.eval x=cx→a.eval y=cy→(eqGuard (if neg then .neq else .eql) t x y cx cy).run P w= .ok () w→
   ((binOp .eql t cx cy)=(do pure (.bool (←Op.equal t cx cy))))→((binOp .neq t cx cy)=(do pure (.bool (!(←Op.equal t cx cy)))))→(execOp a.eval o).run P w= .ok (.value (.bool (r != neg))) w:=by
  intro cx cy H K U e4 e5
  rw[H,K]at V
  cases neg
  ·simp at U
   simp[execOp,W,H,K,U,e4,V]
  ·simp at U
   simp[execOp,W,H,K,U,e5,V]
 have I: ∀cx cy,(∀z,cx≠ .agg z)→cx≠ .nilIface→(eqGuard (if neg then .neq else .eql) t x y cx cy).run P w= .ok () w:=by
  intro cx cy h1 h2
  cases neg <;> cases cx <;> simp[eqGuard]at*
 unfold uP at J
 split at J
 ·rename_i c
  unfold lO at J
  split at J
  ·exact i _ _ D.bool F.bool (I _ _ (by simp) (by simp)) rfl rfl
  ·grind
  ·grind
  ·cases J
 ·obtain⟨u2,_⟩:=Z
  simp only[fx]at D F
  obtain⟨xa,H,_⟩:=D
  obtain⟨ya,K,_⟩:=F
  exact i _ _ H K (run_eqGuard_agg w _ t x y xa ya u2) rfl rfl
 ·simp only[fx]at D F
  exact i _ _ D F (I _ _ (by simp) (by simp)) rfl rfl
 ·simp only[fx,PRel]at D F
  obtain⟨_,_,_,_,H,_⟩:=D
  exact i _ _ H F (I _ _ (by simp) (by simp)) rfl rfl
 ·simp only[fx]at D F
  obtain⟨_,_,H,_⟩:=D
  exact i _ _ H F (I _ _ (by simp) (by simp)) rfl rfl
 ·simp only[fx]at D F
  exact i _ _ D F (I _ _ (by simp) (by simp)) rfl rfl
 ·simp only[fx,PRel]at D F
  obtain⟨_,_,H,_⟩:=D
  exact i _ _ H F (I _ _ (by simp) (by simp)) rfl rfl
 ·simp only[fx]at D F
  exact i _ _ D.2 F (I _ _ (by simp) (by simp)) rfl rfl
 ·simp only[fx]at D F
  exact i _ _ D F (I _ _ (by simp) (by simp)) rfl rfl
 ·simp only[fx,PRel]at D F
  obtain⟨_,_,_,H,_⟩:=D
  exact i _ _ H F (I _ _ (by simp) (by simp)) rfl rfl
 ·simp only[fx]at D F
  exact i _ _ D.2 F (I _ _ (by simp) (by simp)) rfl rfl
 ·cases J
end
theorem ME{P:Program}{β:iL}{G:Sp→Nat→Nat}{w:World}{M:iB}{t:TypeId}{c:CK}{r:TypeDesc}{k x:T}{kv D:Value}{b:Bool}(hc:wo P t=some c)(i:P.underlying t=some r)(hk:fx β G w M k kv)(hx:fx β G w M x D)(h:lO c k x=some b):
  Instr.sameNow r kv D=some b:=by
 have MC:=tD hc
 unfold lO at h
 split at h
 ·simp at h;subst h
  rw[hk.bool,hx.bool]
  simp only at MC
  rw[i]at MC;simp at MC;subst MC
  rfl
 ·split at h
  ·rename_i e;subst e
   simp at h;subst h
   obtain⟨I,MC⟩:=MC
   rw[i]at MC;simp at MC;subst MC
   rw[hk.int,hx.int];simp[Instr.sameNow]
  ·cases h
 ·simp at h;subst h
  simp only at MC
  rw[i]at MC;simp at MC;subst MC
  obtain⟨J,F,rfl⟩:=hk.str
  obtain⟨K,H,rfl⟩:=hx.str
  rw[F,H]
  simp[Instr.sameNow,beq_toListBytes,kI,mQ]
 ·cases h
def Found(es:List MapEntry)(off:Nat)(r:Option Nat)(D:Option (Nat×Value)):Prop:=
 match r with
 |none=>D=none
 |some i=> ∃e,es[i]? =some e∧D=some (off+i,e.val)
theorem DH{P:Program}{β:iL}{G:Sp→Nat→Nat}{w:World}{M:iB}{t:TypeId}{c:CK}{J:TypeDesc}{k:T}{kv:Value}(hc:wo P t=some c)(K:P.underlying t=some J)(hk:fx β G w M k kv):
  ∀(es:List MapEntry) (ks:List T) (off:Nat) (r:Option Nat),PList w M ks (es.map (·.key))→ni (.one c) k ks=some r→ ∃D,Instr.findNow J kv es off=some D∧Found es off r D
 | [],ks,off,r,H,F=>by
   cases ks with
   |nil=>simp[ni]at F;subst F;exact⟨none,rfl,rfl⟩
   |cons x xs=>simp[PList]at H
 |e::es,ks,off,r,H,F=>by
  cases ks with
  |nil=>simp[PList]at H
  |cons x xs=>
   simp only[List.map_cons,PList,List.cons.injEq]at H
   obtain⟨u,us,⟨rfl,rfl⟩,U,V⟩:=H
   simp only[ni,uP]at F
   cases I:lO c k x with
   |none=>simp[I]at F
   |some b=>
    have hs:=ME hc K hk (PRel.toV β G _ _ U) I
    cases b with
    |true=>
     simp[I]at F;subst F
     exact⟨some (off,e.val),by simp[Instr.findNow,hs],e,rfl,rfl⟩
    |false=>
     simp only[I,Option.map_eq_some_iff]at F
     obtain⟨N,W,rfl⟩:=F
     obtain⟨D,X,O⟩:=DH hc K hk es xs (off+1) N V W
     refine⟨D,by simp[Instr.findNow,hs,X], ?_⟩
     cases N with
     |none=>exact O
     |some i=>
      obtain⟨Y,a1,a2⟩:=O
      exact⟨Y,by simpa using a1,by rw[a2];simp;omega⟩
theorem wM{P:Program}{β:iL}{G:Sp→Nat→Nat}{w:World}{M:iB}{t:TypeId}{ek:EK}{k:T}{kv:Value}(hc:Dw P t=some ek)(hk:fx β G w M k kv):
  ∀(es:List MapEntry) (ks:List T) (off:Nat) (r:Option Nat),PList w M ks (es.map (·.key))→ni ek k ks=some r→ ∃D,(Instr.findAsking t kv es off).run P w= .ok D w∧Found es off r D
 | [],ks,off,r,H,F=>by
   cases ks with
   |nil=>simp[ni]at F;subst F;exact⟨none,by simp[Instr.findAsking],rfl⟩
   |cons x xs=>simp[PList]at H
 |e::es,ks,off,r,H,F=>by
  cases ks with
  |nil=>simp[PList]at H
  |cons x xs=>
   simp only[List.map_cons,PList,List.cons.injEq]at H
   obtain⟨u,us,⟨rfl,rfl⟩,N,O⟩:=H
   simp only[ni]at F
   cases I:uP ek k x with
   |none=>simp[I]at F
   |some b=>
    have hs:=OP (P:=P) hc hk (PRel.toV β G _ _ N) I
    cases b with
    |true=>
     simp[I]at F;subst F
     exact⟨some (off,e.val),by simp[Instr.findAsking,hs],e,rfl,rfl⟩
    |false=>
     simp only[I,Option.map_eq_some_iff]at F
     obtain⟨J,U,rfl⟩:=F
     obtain⟨D,V,K⟩:=wM hc hk es xs (off+1) J O U
     refine⟨D,by simp[Instr.findAsking,hs,V], ?_⟩
     cases J with
     |none=>exact K
     |some i=>
      obtain⟨W,a1,a2⟩:=K
      exact⟨W,by simpa using a1,by rw[a2];simp;omega⟩
theorem Hq{P:Program}{t:TypeId}{ek:EK}(h:keyOf P t=some ek):Dw P t=some ek∧((∃c,ek= .one c)∨ ∃ks,ek= .flat ks):=by
 grind [keyOf]
theorem Vb{P:Program}{t:TypeId}{ks:List CK}(h:keyOf P t=some (.flat ks)): ∃i,P.underlying t=some (.struct i)∧od P 0 i.toList=some ks:=by
 have D:=(Hq h).1
 unfold keyOf at h
 rw[D]at h
 obtain⟨_,⟨i,r,_,F⟩|⟨n,e,c,r,_⟩⟩:=qR D
 ·exact⟨i,r,F⟩
 ·simp[r]at h
theorem tE{P:Program}{β:iL}{G:Sp→Nat→Nat}{w:World}{M:iB}{t:TypeId}{ek:EK}{k:T}{kv:Value}(hc:keyOf P t=some ek)(hk:fx β G w M k kv)(es:List MapEntry)(ks:List T)(r:Option Nat)(H:PList w M ks (es.map (·.key)))
  (F:ni ek k ks=some r): ∃i,(Instr.findKey t kv es).run P w= .ok i w∧Found es 0 r i:=by
 obtain⟨J,U⟩:=Hq hc
 unfold Instr.findKey
 rcases U with⟨c,rfl⟩|⟨ck,rfl⟩
 ·have Bz:=qR J
  simp only at Bz
  have: ∃K,P.underlying t=some K:=by
   have:=tD Bz
   grind
  obtain⟨K,N⟩:=this
  obtain⟨i,I,D⟩:=DH Bz N hk es ks 0 r H F
  exact⟨i,by simp[run_underlying N,I],D⟩
 ·obtain⟨V,O,_⟩:=Vb hc
  obtain⟨i,I,D⟩:=wM (P:=P) J hk es ks 0 r H F
  cases es with
  |nil=>
   refine⟨i, ?_,D⟩
   have:i=none:=by
    cases ks with
    |nil=>simp[ni]at F;subst F;exact D
    |cons x xs=>simp[PList]at H
   subst this
   simp[run_underlying O,Instr.findNow]
  |cons e es=>
   refine⟨i, ?_,D⟩
   have:Instr.sameNow (.struct V) kv e.key=none:=by unfold Instr.sameNow;split <;> simp_all
   simp[run_underlying O,Instr.findNow,this,I]
theorem yH{P:Program}{w:World}{t:TypeId}{c:CK}(hc:wo P t=some c)(n:Nat)(em:Bool)(v:Value):(Instr.checkKey em (n+1) t v).run P w= .ok () w:=by
 have:=tD hc
 cases c
 ·obtain⟨i,e⟩:=this;simp[Instr.checkKey,run_underlying e]
 ·simp[Instr.checkKey,run_underlying this]
 ·simp[Instr.checkKey,run_underlying this]
theorem uv{P:Program}{w:World}(n:Nat)(em:Bool)(cs:Array Value): ∀(r:List Field) (i:Nat) (ks:List CK),od P i r=some ks→i+ks.length≤cs.size→
  (forIn r PUnit.unit (fun f (_:PUnit)=>
    if f.name≠ "_" then(do
     let p ←Go.part f.type cs f.offset
     Instr.checkKey em (n+1) f.type p
     pure (ForInStep.yield PUnit.unit))else pure (ForInStep.yield PUnit.unit):Field→PUnit→Sem (ForInStep PUnit))).run P w= .ok PUnit.unit w
 | [],i,ks,hk,hs=>by simp
 |f::r,i,ks,hk,hs=>by
  simp only[od]at hk
  split at hk
  ·rename_i hc
   simp at hc
   obtain⟨⟨J,K⟩,N⟩:=hc
   split at hk
   ·rename_i k D F H
    simp at hk;subst hk
    have I:uA P f.type=some false:=by
     have:=tD F
     grind [uA]
    have hi:i<cs.size:=by simp at hs;omega
    have O:(Go.part f.type cs f.offset).run P w= .ok cs[i] w:=by
     simp_all[Go.part,Sem.run_bind,qQ,Result.andThen_ok,Array.getElem?_eq_getElem]
    have ih:=uv (P:=P) (w:=w) n em cs r (i+1) D H (by simp at hs;omega)
    grind [Sem.run_bind,Result.andThen_ok,yH,Sem.run_pure]
   ·cases hk
  ·cases hk
theorem BA{P:Program}{β:iL}{G:Sp→Nat→Nat}{w:World}{M:iB}{t:TypeId}{ek:EK}{k:T}{kv:Value}(hc:keyOf P t=some ek)(hk:fx β G w M k kv)(OR:isKey ek k=true)(n:Nat)(em:Bool):
  (Instr.checkKey em (n+2) t kv).run P w= .ok () w:=by
 obtain⟨D,F⟩:=Hq hc
 rcases F with⟨c,rfl⟩|⟨ck,rfl⟩
 ·exact yH (qR D) (n+1) em kv
 ·obtain⟨H,I,J⟩:=Vb hc
  unfold isKey at OR
  split at OR
  ·simp_all
  ·rename_i ks xs e
   simp at e;subst e
   simp only[fx]at hk
   obtain⟨i,rfl,K,_⟩:=hk
   have r:ck.length≤i.size:=by
    have N:=gP.length _ _ K
    have: ∀(ks:List CK) (xs:List T),qq ks xs=true→ks.length=xs.length:=by
     intro ks
     induction ks with
     |nil=>intro xs h;cases xs <;> simp[qq]at h ⊢
     |cons k ks ih=>intro xs h;cases xs <;> simp[qq]at h ⊢; exact ih _ h.2
    grind
   have:=uv (P:=P) (w:=w) n em i H.toList 0 ck J (by omega)
   rw[Instr.checkKey]
   simp only[Sem.run_bind,run_underlying I,Result.andThen_ok]
   simp_all
  ·cases OR
end Go.Ev
