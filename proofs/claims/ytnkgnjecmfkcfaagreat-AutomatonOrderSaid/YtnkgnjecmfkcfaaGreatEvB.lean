/- A tree evaluator over the model, proved against it (part B): where it answers, the call returns that answer. Conditions: none beyond its theorems' own. -/
import Derived.Test.YtnkgnjecmfkcfaaGreatEvA
import Derived.Laws.Cells
import Derived.Laws.CopyRow
import Derived.Laws.AppendOwn
import Derived.Laws.Entries
import Derived.Laws.StructEq
import Derived.Laws.Cover3
import Derived.ChangeKeysEq
set_option linter.unusedSimpArgs false
set_option linter.unusedVariables false
namespace Go.Ev
open Go
theorem rS{w:World}{M:MSet}{v:Value}{t:T}(h:qL v=some t):PRel w M t v∧single t=true:=by
 unfold qL at h
 grind [PRel,single,PList]
theorem pU{w:World}{M:MSet}: ∀{r:List Value} {ts:List T},ji r=some ts→PList w M ts r∧ts.all single=true
 | [],ts,h=>by grind [ji,PList]
 |v::r,ts,h=>by
  simp only[ji]at h
  split at h
  ·rename_i t D h1 h2
   simp at h;subst h
   have a:=rS (w:=w) (M:=M) h1
   have b:=pU (w:=w) (M:=M) h2
   simp only[PList,List.all_cons,Bool.and_eq_true]
   grind
  ·simp at h
theorem lu{w:World}{M:MSet}{v:Value}{t:T}(h:zK v=some t):PRel w M t v:=by
 unfold zK at h
 grind [Option.map_eq_some_iff,PRel,pU,rS]
def jE(β:aN)(G:Sp→Nat→Nat)(w:World)(M:MSet)(ρ:aP→T)(e:Operand→Value):Prop:= ∀x y,eD x=some y→aq β G w M (ρ y) (e x)
theorem Uq{st:St}{a:Act}{w:World}{β:aN}{M:MSet}{n:Nat}(h:iF st a w β M n):jE β st.gens w M st.rho a.eval:=by
 intro x y Gp
 cases x with
 |tmp t=>simp[eD]at Gp;subst Gp;exact h.slot t
 |const v=>
  simp only[eD,Option.map_eq_some_iff]at Gp
  obtain⟨t,h1,rfl⟩:=Gp
  exact PRel.toV _ _ _ _ (lu h1)
 |global g=>simp[eD]at Gp
 |func f=>grind [eD,St.rho,Act.eval,aq,au]
def dP(P:Program)(B:eH)(st:St)(a:Act)(w:World)(β:aN)(M:MSet)(o:Oper)(v:T)(ups:List Up):Prop:=
 ∃nx cv w' r M',(execOp a.eval o).run P w= .ok nx w'∧(nx= .value cv∨(nx= .skip∧cv=undef))∧aZ B (st.ups ups) w' r M'∧Tr st w β M (st.ups ups) w' r M'∧w.heap.size≤w'.heap.size∧aq r (st.ups ups).gens w' M' v cv
section
variable{P:Program}{B:eH}{st:St}{a:Act}{w:World}{β:aN}{M:MSet}{o:Oper}{v:T}{ups:List Up}
theorem aR(h:aZ B st w β M){cv:Value}(hr:(execOp a.eval o).run P w= .ok (.value cv) w)(r:aq β st.gens w M v cv):dP P B st a w β M o v []:=
 ⟨_,cv,w,β,M,hr,.inl rfl,h,Tr.refl _ _ _ _,Nat.le_refl _,r⟩
variable(dC:jE β st.gens w M st.rho a.eval)(h:aZ B st w β M)
include dC h
theorem ag1{x:Operand}{y:aP}(ho:o.op= .move x∨o.op= .assign x)(hx:eD x=some y):dP P B st a w β M o (st.rho y) []:=
 aR h (cv:=a.eval x) (by rcases ho with ho|ho <;> simp[execOp,ho]) (dC x y hx)
theorem aaK{c x y:Operand}{r D F:aP}(I:o.op= .pick c x y)(h1:eD c=some r)(h2:eD x=some D)(h3:eD y=some F){H:Bool}(J:st.rho r= .b H):
  dP P B st a w β M o (st.rho (if H then D else F)) []:=by
 have hc:=dC c r h1
 rw[J]at hc;simp only[aq]at hc
 cases H
 ·exact aR h (cv:=a.eval y) (by simp[execOp,I,hc,asBool]) (dC y F h3)
 ·exact aR h (cv:=a.eval x) (by simp[execOp,I,hc,asBool]) (dC x D h2)
theorem aje{d nx:Nat}{x:Operand}{y:aP}(F:o.op= .nilCheck x)(hx:eD x=some y){v:T}(D:(bt d st.rho (.nck y)).run st.get nx=some (.val v ups)):dP P B st a w β M o v ups:=by
 have r:=dC x y hx
 simp only[bt]at D
 split at D <;> simp[Q.run]at D <;> obtain⟨rfl,rfl⟩:=D <;> rename_i e
 ·rw[e]at r
  refine aR h (cv:=a.eval x) ?_ r
  simp only[aq,PRel]at r
  obtain⟨H,off,h1,_⟩:=r
  simp[execOp,F,h1]
 ·rw[e]at r
  refine aR h (cv:=a.eval x) ?_ r
  simp only[aq]at r
  simp[execOp,F,r.2]
 ·rw[e]at r
  refine aR h (cv:=a.eval x) ?_ r
  simp only[aq]at r
  obtain⟨I,J,h1,_⟩:=r
  simp[execOp,F,h1]
end
end Go.Ev
namespace Go.Ev
open Go
theorem wr_eq(k:IntKind)(n:Int):wr k n=k.wrap n:=by
 unfold wr
 split
 ·rename_i h
  cases k <;> simp only[lo,hi]at h <;> simp[IntKind.wrap,IntKind.bits,IntKind.signed] <;> omega
 ·rfl
theorem bytesN_toList(x:ByteArray):bytesN x=x.toList.map UInt8.toNat:=by rw[ByteArray.toList_eq];rfl
theorem fI: ∀(a b:List UInt8),(a.map UInt8.toNat==b.map UInt8.toNat)=(a==b)
 | [],[]=>rfl
 | [],_::_=>rfl
 |_::_,[]=>rfl
 |x::xs,y::r=>by
  simp only[List.map_cons,List.cons_beq_cons,fI xs r]
  congr 1
  rw[Bool.eq_iff_iff];simp[UInt8.toNat_inj]
theorem less_map: ∀(a b:List UInt8),lessN (a.map UInt8.toNat) (b.map UInt8.toNat)=Op.bytesLess a b
 | [],[]=>rfl
 | [],_::_=>rfl
 |_::_,[]=>rfl
 |x::xs,y::r=>by
  simp only[List.map_cons,lessN,Op.bytesLess,less_map xs r]
  have h1:decide (x.toNat<y.toNat)=decide (x<y):=by rw[Bool.eq_iff_iff];simp[UInt8.lt_iff_toNat_lt]
  have h2:(x.toNat==y.toNat)=(x==y):=by rw[Bool.eq_iff_iff];simp[UInt8.toNat_inj]
  rw[h1,h2]
theorem fu(x:ByteArray):(bytesN x).length=x.size:=by
 unfold bytesN;rw[List.length_map,Array.length_toList];rfl
theorem BQ(x y:ByteArray):bytesN (x++y)=bytesN x++bytesN y:=by simp[bytesN,ByteArray.data_append]
section
variable{P:Program}{B:eH}{st:St}{a:Act}{w:World}{β:aN}{M:MSet}{o:Oper}{v:T}{ups:List Up}
theorem aq.int{k:IntKind}{n:Int}{cv:Value}{G:Sp→Nat→Nat}(h:aq β G w M (.i k n) cv):cv= .int k n:=by grind [aq]
theorem aq.str{l:List Nat}{cv:Value}{G:Sp→Nat→Nat}(h:aq β G w M (.s l) cv): ∃r,cv= .string r∧bytesN r=l:=by grind [aq]
theorem aq.bool{x:Bool}{cv:Value}{G:Sp→Nat→Nat}(h:aq β G w M (.b x) cv):cv= .bool x:=by grind [aq]
theorem aaL{op:BinOp}{k:IntKind}{x y:Int}{t:TypeId}{r:T}(h:lR op k x y=some r)(hs:op≠ .shl∧op≠ .shr): ∃cv,(binOp op t (.int k x) (.int k y)).run P w= .ok cv w∧ ∀G,aq β G w M r cv:=by
 cases op <;> simp only[lR,Option.some.injEq]at h <;> try (subst h)
 all_goals first
  |exact absurd rfl hs.1
  |exact absurd rfl hs.2
  |skip
 case quo=>
  split at h
  ·cases h
  ·rename_i D
   simp at h;subst h
   exact⟨_,by simp[binOp,Op.intDiv,D];rfl,fun G=>by simp[aq,wr_eq]⟩
 case rem=>
  split at h
  ·cases h
  ·rename_i D
   simp at h;subst h
   exact⟨_,by simp[binOp,Op.intDiv,D];rfl,fun G=>by simp[aq]⟩
 all_goals first
  |exact⟨_,by simp[binOp,Op.intArith,Op.intBits,Op.intCmp];rfl,fun G=>by simp[aq,wr_eq]⟩
  |cases h
theorem CW{op:BinOp}{k k':IntKind}{x y:Int}{t:TypeId}{r:T}(h:zG op k x y=some r): ∃cv,(binOp op t (.int k x) (.int k' y)).run P w= .ok cv w∧ ∀G,aq β G w M r cv:=by
 unfold zG at h
 split at h
 ·cases h
 ·rename_i D
  cases op <;> simp at h <;> subst h
  ·exact⟨_,by simp[binOp,Op.shift,D];rfl,fun G=>by simp[aq]⟩
  ·exact⟨_,by simp[binOp,Op.shift,D];rfl,fun G=>by simp[aq]⟩
theorem aaM{op:BinOp}{x y:ByteArray}{t:TypeId}{r:T}(h:Ky op (bytesN x) (bytesN y)=some r): ∃cv,(binOp op t (.string x) (.string y)).run P w= .ok cv w∧ ∀G,aq β G w M r cv:=by
 have e1:(bytesN x==bytesN y)=(x.toList==y.toList):=by rw[bytesN_toList,bytesN_toList,fI]
 have e2:lessN (bytesN x) (bytesN y)=Op.bytesLess x.toList y.toList:=by rw[bytesN_toList,bytesN_toList,less_map]
 have e3:(bytesN x != bytesN y)= !(x.toList==y.toList):=by rw[bne,e1]
 cases op <;> simp only[Ky]at h <;> try (cases h;done)
 case add=>
  split at h
  ·rename_i D
   simp at h;subst h
   rw[fu,fu]at D
   have: ¬(((x.size+y.size:Nat):Int)>IntKind.i64.max):=by simp[IntKind.max,IntKind.signed,IntKind.bits];omega
   exact⟨.string (x++y),by simp only[binOp,Op.stringOp,this,if_false];rfl,fun G=>by simp only[aq];exact⟨_,rfl,BQ x y⟩⟩
  ·cases h
 all_goals
  simp only[Option.some.injEq]at h
  subst h
  refine⟨_,by simp only[binOp,Op.stringOp];rfl,fun G=> ?_⟩
  simp only[aq,e1,e2,e3]
variable(dC:jE β st.gens w M st.rho a.eval)(h:aZ B st w β M)
include dC h
theorem ajf{op:BinOp}{t U:TypeId}{x y:Operand}{H I:aP}(J:o.op= .binOp op t x y U)(hx:eD x=some H)(V:eD y=some I)(r:Ev.bin op (st.rho H) (st.rho I)=some v):dP P B st a w β M o v []:=by
 have K:=dC x H hx
 have N:=dC y I V
 generalize st.rho H=tx at*
 generalize st.rho I=ty at*
 have Kz: ∀k k' m n,(eqGuard op t x y (.int k m) (.int k' n)).run P w= .ok () w:=by intro k k' m n;cases op <;> simp[eqGuard]
 have O: ∀m n,(eqGuard op t x y (.string m) (.string n)).run P w= .ok () w:=by intro m n;cases op <;> simp[eqGuard]
 unfold Ev.bin at r
 split at r
 ·rename_i W a1 R X
  have e1:=K.int;have e2:=N.int
  obtain⟨cv,D,F⟩:=CW (P:=P) (w:=w) (β:=β) (M:=M) (t:=t) (k':=R) r
  exact aR h (cv:=cv) (by simp[execOp,J,e1,e2,Kz,D]) (F _)
 ·rename_i W a1 R X
  have e1:=K.int;have e2:=N.int
  obtain⟨cv,D,F⟩:=CW (P:=P) (w:=w) (β:=β) (M:=M) (t:=t) (k':=R) r
  exact aR h (cv:=cv) (by simp[execOp,J,e1,e2,Kz,D]) (F _)
 ·rename_i Y Gq
  split at r
  ·rename_i hk
   subst hk
   have e1:=K.int;have e2:=N.int
   obtain⟨cv,D,F⟩:=aaL (P:=P) (w:=w) (β:=β) (M:=M) (t:=t) r ⟨fun e=>Y e,fun e=>Gq e⟩
   exact aR h (cv:=cv) (by simp[execOp,J,e1,e2,Kz,D]) (F _)
  ·cases r
 ·obtain⟨bx,e1,rfl⟩:=K.str
  obtain⟨Z,e2,rfl⟩:=N.str
  obtain⟨cv,D,F⟩:=aaM (P:=P) (w:=w) (β:=β) (M:=M) (t:=t) r
  exact aR h (cv:=cv) (by simp[execOp,J,e1,e2,O,D]) (F _)
 ·cases r
theorem auL{op:UnOp}{t:TypeId}{x:Operand}{D:aP}(F:o.op= .unOp op t x)(hx:eD x=some D)(r:Ev.un op (st.rho D)=some v):dP P B st a w β M o v []:=by
 have H:=dC x D hx
 generalize st.rho D=tx at*
 unfold Ev.un at r
 split at r
 ·simp at r;subst r
  exact aR h (cv:=_) (by simp[execOp,F,H.int,Op.unary,Op.intArith];rfl) (by simp[aq,wr_eq])
 ·simp at r;subst r
  exact aR h (cv:=_) (by simp[execOp,F,H.bool,Op.unary];rfl) (by simp only[aq])
 ·rename_i k n
  simp only[lR,Option.some.injEq]at r;subst r
  exact aR h (cv:= .int k (k.wrap (BitVec.ofInt k.bits (if k.signed then-1 else k.max) ^^^ BitVec.ofInt k.bits n).toNat)) (by simp only[execOp,F,H.int,Op.unary,Op.intBits];rfl) (by simp only[aq])
 ·cases r
theorem ajh{s t:TypeId}{k:IntKind}{x:Operand}{r:aP}(F:o.op= .convert s t x)(hx:eD x=some r)(hs: ∃k',P.underlying s=some (.int k'))(H:P.underlying t=some (.int k)){k':IntKind}{n:Int}(I:st.rho r= .i k' n):
  dP P B st a w β M o (.i k (wr k n)) []:=by
 have D:=dC x r hx
 rw[I]at D
 obtain⟨ks,hs⟩:=hs
 exact aR h (cv:= .int k (k.wrap n)) (by simp[execOp,F,D.int,convert,run_underlying hs,run_underlying H,Conv.intToInt]) (by simp only[aq,wr_eq])
omit h in
theorem qN: ∀{xs:List Operand} {r:List aP},tS xs=some r→au β st.gens w M (r.map st.rho) (xs.map a.eval)
 | [],r,h=>by grind [tS,au]
 |x::xs,r,h=>by
  simp only[tS]at h
  split at h
  ·rename_i y D h1 h2
   simp at h;subst h
   simp only[List.map_cons,au]
   exact⟨_,_,rfl,dC x y h1,qN h2⟩
  ·cases h
theorem aaN{f:FuncId}{first r:Array Operand}{D cs:List aP}(F:o.op= .makeFunc (.func f) first r)(h1:tS first.toList=some D)(h2:tS r.toList=some cs):
  dP P B st a w β M o (.fn f (D.map st.rho) (cs.map st.rho)) []:=
 aR h (cv:= .func (.func f) (first.map a.eval) (r.map a.eval)) (by simp[execOp,F,Instr.makeFunc]) (by
  simp only[aq]
  exact⟨_,_,rfl,by simpa using qN dC h1,by simpa using qN dC h2⟩)
theorem aji{x:Operand}{r:aP}{j:Nat}(J:o.op= .extract x j)(hx:eD x=some r){I:List T}(K:st.rho r= .tup I)(N:I[j]? =some v):dP P B st a w β M o v []:=by
 have D:=dC x r hx
 rw[K]at D
 simp only[aq]at D
 obtain⟨F,e,O⟩:=D
 obtain⟨cv,R,U⟩:=O.get N
 have H:F[j]? =some cv:=by simpa using R
 exact aR h (cv:=cv) (by simp[execOp,J,e,Instr.extract,H]) U
end
end Go.Ev
namespace Go.Ev
open Go
theorem fU{P:Program}{t:TypeId}{n:Nat}(h:eC P t=some n)(w:World):(sizeOf t).run P w= .ok n w:=by
 unfold eC at h
 cases hi:P.info? t with
 |none=>simp[hi]at h
 |some i=>simp[hi]at h;simp[sizeOf,typeInfo,hi,h]
theorem lz{P:Program}{t:TypeId}{D:Bool}(h:py P t=some D)(w:World):(isAgg t).run P w= .ok D w:=by
 unfold py at h
 cases r:P.underlying t with
 |none=>simp[r]at h
 |some d=>
  simp only[r,Option.map_some,Option.some.injEq]at h
  unfold isAgg
  simp only[Sem.run_bind,run_underlying r,Result.andThen_ok]
  cases d <;> simp at h <;> subst h <;> rfl
theorem HC{P:Program}{β:aN}{G:Sp→Nat→Nat}{w:World}{M:MSet}{t:TypeId}{off n:Nat}{D:Bool}{cs:List T}{r:Array Value}{v:T}(H:eC P t=some n)(I:py P t=some D)
  (F:au β G w M cs r.toList) (hs:cs.all single=true) (h:Ev.part cs off n D=some v): ∃cv,(Go.part t r off).run P w= .ok cv w∧aq β G w M v cv:=by
 unfold Ev.part at h
 unfold Go.part
 simp only[Sem.run_bind,lz I,Result.andThen_ok]
 cases D with
 |true=>
  simp only[if_true]at h ⊢
  split at h
  ·rename_i J
   simp at h;subst h
   refine⟨.agg (r.extract off (off+n)),by simp[fU H], ?_⟩
   simp only[aq]
   refine⟨_,rfl, ?_,gn hs _ _⟩
   have:=au.take n (au.drop off F)
   grind [Array.toList_extract,List.extract_eq_take_drop]
  ·cases h
 |false=>
  simp only[Bool.false_eq_true,if_false]at h ⊢
  obtain⟨cv,K,N⟩:=F.get h
  simp_all
theorem dG(b o n:Nat):(⟨b,o,none⟩:Addr).add n=⟨b,o+n,none⟩:=by grind [Addr.add]
theorem PCells.get{w:World}{M:MSet}{r:Nat}: ∀{off:Nat} {ts:List T},PCells w M r off ts→ ∀{j:Nat} {t:T},ts[j]? =some t→ ∃v,w.cell? ⟨r,off+j,none⟩=some v∧ ¬M r (off+j)∧PRel w M t v∧single t=true
 |off,[],h,j,t,D=>by simp at D
 |off,c::cs,h,j,t,D=>by
  simp only[PCells]at h
  obtain⟨h1,h2⟩:=h
  cases j with
  |zero=>grind
  |succ j=>
   simp at D
   obtain⟨v,e⟩:=PCells.get h2 D
   grind
theorem PCells.drop{w:World}{M:MSet}{r:Nat}: ∀{off:Nat} {ts:List T} (n:Nat),PCells w M r off ts→n≤ts.length→PCells w M r (off+n) (ts.drop n)
 |off,ts,0,h,_=>by simpa using h
 |off,[],n+1,h,D=>by simp at D
 |off,c::cs,n+1,h,D=>by
  simp only[PCells]at h
  have:=PCells.drop n h.2 (by simpa using D)
  grind
theorem PCells.take{w:World}{M:MSet}{r:Nat}: ∀{off:Nat} {ts:List T} (n:Nat),PCells w M r off ts→PCells w M r off (ts.take n)
 |off,ts,0,h=>by simp[PCells]
 |off,[],n+1,h=>by simp[PCells]
 |off,c::cs,n+1,h=>by
  simp only[PCells]at h
  simp only[List.take_succ_cons,PCells]
  exact⟨h.1,PCells.take n h.2⟩
theorem PCells.load{P:Program}{w:World}{M:MSet}{r:Nat}: ∀{off:Nat} {ts:List T},PCells w M r off ts→ ∃D:List Value,D.length=ts.length∧(∀j v,D[j]? =some v→w.cell? ⟨r,off+j,none⟩=some v)∧PList w M ts D∧ts.all single=true
 |off,[],h=>⟨[],rfl,by simp,by simp[PList],rfl⟩
 |off,c::cs,h=>by
  simp only[PCells]at h
  obtain⟨⟨v,h1,_,h3,h4⟩,h2⟩:=h
  obtain⟨D,e1,e2,e3,e4⟩:=PCells.load (P:=P) h2
  refine⟨v::D,by simp[e1],fun j u F=> ?_, ?_,by simp[h4,e4]⟩
  ·grind
  ·grind [PList]
theorem HD{P:Program}{β:aN}{G:Sp→Nat→Nat}{w:World}{M:MSet}{t:TypeId}{n:Nat}{F:Bool}{r off o:Nat}{cs:List T}{D:List Value}{v:T}(K:eC P t=some n)(N:py P t=some F)
  (hc: ∀j u,D[j]? =some u→w.cell? ⟨r,off+j,none⟩=some u) (H:au β G w M cs D) (hs:cs.all single=true) (h:Ev.part cs o n F=some v):
  ∃cv,(loadVar t ⟨r,off+o,none⟩).run P w= .ok cv w∧aq β G w M v cv:=by
 unfold Ev.part at h
 unfold loadVar
 simp only[Sem.run_bind,lz N,Result.andThen_ok]
 cases F with
 |true=>
  simp only[if_true]at h ⊢
  split at h
  ·rename_i O
   simp at h;subst h
   have J:=au.length _ _ H
   have R:((D.drop o).take n).length=n:=by simp;omega
   have:=run_loadCells_list (P:=P) w ⟨r,off+o,none⟩ ((D.drop o).take n) (fun j u I=>by
    rw[dG]
    rw[List.getElem?_take]at I
    split at I
    ·grind
    ·cases I)
   rw[R]at this
   refine⟨.agg ((D.drop o).take n).toArray,by simp[fU K,this], ?_⟩
   simp only[aq]
   exact⟨_,rfl,by simpa using au.take n (au.drop o H),gn hs _ _⟩
  ·cases h
 |false=>
  simp only[Bool.false_eq_true,if_false]at h ⊢
  obtain⟨cv,U,V⟩:=H.get h
  grind [Go.load,Sem.run]
section
variable{P:Program}{B:eH}{st:St}{a:Act}{w:World}{β:aN}{M:MSet}{o:Oper}{v:T}{ups:List Up}
variable(dC:jE β st.gens w M st.rho a.eval)(h:aZ B st w β M)
include h
theorem HE{t:TypeId}{n nx:Nat}{I:Bool}{x:T}{cx:Value}(N:eC P t=some n)(O:py P t=some I)(J:aq β st.gens w M x cx)(r:(D6 x n I).run st.get nx=some v):
  ∃R cv,cx= .pointer (some R)∧(loadVar t R).run P w= .ok cv w∧aq β st.gens w M v cv:=by
 unfold D6 at r
 split at r
 ·rename_i cs
  simp only[aq,PRel]at J
  obtain⟨Y,off,rfl,hc⟩:=J
  obtain⟨vs,_,e2,e3,e4⟩:=PCells.load (P:=P) hc
  cases D:Ev.part cs 0 n I with
  |none=>simp[D,Q.of,Q.run]at r
  |some Z=>
   simp[D,Q.of,Q.run]at r;subst r
   obtain⟨cv,U,V⟩:=HD (P:=P) (β:=β) (G:=st.gens) (M:=M) N O e2 (PList.toV _ _ _ _ e3) e4 D
   grind
 ·rename_i sp k g off
  simp only[Q.run]at r
  split at r
  ·rename_i W
   have X:=h.obj sp k
   generalize he:st.get sp k=e at*
   obtain⟨K,ob⟩:=e
   dsimp only at W;subst W
   cases ob with
   |none=>simp[Q.run]at r
   |map _ _ _=>simp[Q.run]at r
   |cells cs wm bx=>
    dsimp only at r
    cases D:Ev.part cs off n I with
    |none=>simp[D,Q.of,Q.run]at r
    |some Z=>
     simp[D,Q.of,Q.run]at r;subst r
     unfold dF at X
     obtain⟨c,el,fz,h1,h2,h3,h4,h5,h6,h7⟩:=X
     dsimp only at h1 h2 h3 h5
     have PE:au β st.gens w M cs ((c.toList.drop (β sp k K).off).take cs.length):=by
      exact h5.toV
     simp only[aq]at J
     obtain⟨_,rfl⟩:=J
     have F: ∀j u,((c.toList.drop (β sp k K).off).take cs.length)[j]? =some u→w.cell? ⟨(β sp k K).blk,(β sp k K).off+j,none⟩=some u:=by
      intro j u H
      rw[List.getElem?_take]at H
      split at H
      ·rw[List.getElem?_drop]at H
       unfold World.cell?;rw[h1];simpa using H
      ·cases H
     obtain⟨cv,U,V⟩:=HD (P:=P) N O F PE h7.1 D
     exact⟨_,cv,rfl,U,V⟩
  ·simp[Q.run]at r
 ·simp[Q.run]at r
include dC
theorem auM{d nx:Nat}{t:TypeId}{x:Operand}{r:aP}{n:Nat}{F:Bool}(I:o.op= .load t x)(hx:eD x=some r)(J:eC P t=some n)(K:py P t=some F)
  (D:(bt d st.rho (.ld r n F)).run st.get nx=some (.val v ups)):dP P B st a w β M o v ups:=by
 simp only[bt,Q.run_bind]at D
 cases H:(D6 (st.rho r) n F).run st.get nx with
 |none=>simp[H]at D
 |some R=>
  simp[H,Q.run]at D
  obtain⟨rfl,rfl⟩:=D
  obtain⟨U,cv,e,N,O⟩:=HE (P:=P) h J K (dC x r hx) H
  exact aR h (cv:=cv) (by simp[execOp,I,e,Instr.loadAt,Instr.sureAddr,N]) O
theorem auN{d nx:Nat}{s:TypeId}{x:Operand}{H:aP}{f n:Nat}{N:Array Field}{F:Field}(O:o.op= .fieldAddr s x f)(hx:eD x=some H)(hs:P.underlying s=some (.struct N))(R:N[f]? =some F)(U:eC P F.type=some n)(h0:n≠0)
  (D:(bt d st.rho (.fa H F.offset)).run st.get nx=some (.val v ups)):dP P B st a w β M o v ups:=by
 have I:=dC x H hx
 have J: ∀r off,a.eval x= .pointer (some ⟨r,off,none⟩)→(execOp a.eval o).run P w= .ok (.value (.pointer (some ⟨r,off+F.offset,none⟩))) w:=by
  intro r off e
  simp[execOp,O,e,Instr.fieldAt,run_underlying hs,R,Instr.sureAddr,fieldPlace,fU U,h0,dG]
 simp only[bt]at D
 split at D
 ·rename_i cs e
  split at D
  ·rename_i K
   simp[Q.run]at D;obtain⟨rfl,rfl⟩:=D
   rw[e]at I
   simp only[aq,PRel]at I
   obtain⟨r,off,e1,hc⟩:=I
   refine aR h (J r off e1) ?_
   simp only[aq,PRel]
   exact⟨r,_,rfl,PCells.drop _ hc K⟩
  ·simp[Q.run]at D
 ·grind [Q.run,aq,Nat.add_assoc,aR]
 ·simp[Q.run]at D
theorem ajk{d nx:Nat}{s:TypeId}{x:Operand}{F:aP}{f n:Nat}{H:Bool}{K:Array Field}{D:Field}(N:o.op= .field s x f)(hx:eD x=some F)(hs:P.underlying s=some (.struct K))(O:K[f]? =some D)(R:eC P D.type=some n)(U:py P D.type=some H)
  (r:(bt d st.rho (.fld F D.offset n H)).run st.get nx=some (.val v ups)):dP P B st a w β M o v ups:=by
 have I:=dC x F hx
 simp only[bt]at r
 split at r
 ·rename_i cs e
  rw[e]at I
  simp only[aq]at I
  obtain⟨V,e1,W,X⟩:=I
  cases J:Ev.part cs D.offset n H with
  |none=>simp[J,Ev.val,Q.run]at r
  |some v'=>
   simp[J,Ev.val,Q.run]at r;obtain⟨rfl,rfl⟩:=r
   obtain⟨cv,Y,Z⟩:=HC (P:=P) R U W X J
   exact aR h (cv:=cv) (by simp[execOp,N,e1,Instr.field,run_underlying hs,O,asAgg,Y]) Z
 ·simp[Q.run]at r
theorem ajl{d nx:Nat}{t e:TypeId}{x j:Operand}{D F:aP}{len n:Nat}{H:Bool}(O:o.op= .index t x j)(hx:eD x=some D)(R:eD j=some F)(U:P.underlying t=some (.array len e))(K:eC P e=some n)(V:py P e=some H)
  (r:(bt d st.rho (.ixA D F len n H)).run st.get nx=some (.val v ups)):dP P B st a w β M o v ups:=by
 have I:=dC x D hx
 have N:=dC j F R
 simp only[bt]at r
 split at r
 ·rename_i jn cs e1 e2
  rw[e2]at I
  simp only[aq]at I
  obtain⟨W,e3,X,Y⟩:=I
  split at r
  ·rename_i Z
   cases J:Ev.part cs (jn*n) n H with
   |none=>simp[J,Ev.val,Q.run]at r
   |some v'=>
    simp[J,Ev.val,Q.run]at r;obtain⟨rfl,rfl⟩:=r
    unfold asNat at e1
    split at e1
    ·rename_i k m em
     split at e1
     ·rename_i hm
      simp at e1;subst e1
      rw[em]at N
      have ej:=N.int
      obtain⟨cv,r1,r2⟩:=HC (P:=P) K V X Y J
      have:0≤m∧m<(len:Int):=zZ
      exact aR h (cv:=cv) (by simp[execOp,O,e3,ej,Instr.index,run_underlying U,asIntOf,this,fU K,r1]) r2
     ·cases e1
    ·cases e1
  ·simp[Q.run]at r
 ·simp[Q.run]at r
omit h dC in
theorem ic{t:T}{n:Nat}(e:asNat t=some n): ∃k m,t= .i k m∧0≤m∧m.toNat=n:=by
 unfold asNat at e
 grind
theorem ajm{d nx:Nat}{t:TypeId}{x j:Operand}{F H:aP}(O:o.op= .index t x j)(hx:eD x=some F)(R:eD j=some H)(U:P.underlying t=some .string)
  (D:(bt d st.rho (.ixS F H)).run st.get nx=some (.val v ups)):dP P B st a w β M o v ups:=by
 have K:=dC x F hx
 have N:=dC j H R
 simp only[bt]at D
 split at D
 ·rename_i jn Z e1 e2
  rw[e2]at K
  obtain⟨r,e3,rfl⟩:=K.str
  obtain⟨k,m,V,W,rfl⟩:=ic e1
  rw[V]at N
  have X:=N.int
  split at D
  ·rename_i c hc
   simp[Q.run]at D;obtain⟨rfl,rfl⟩:=D
   unfold bytesN at hc
   rw[List.getElem?_map,Option.map_eq_some_iff]at hc
   obtain⟨u,Y,rfl⟩:=hc
   have KA:r[m.toNat]? =some u:=by
    have:r.data[m.toNat]? =some u:=by simpa using Y
    have I:=(Array.getElem?_eq_some_iff.1 this).1
    have:r.data[m.toNat]=u:=(Array.getElem?_eq_some_iff.1 this).2
    show(if h:m.toNat<r.size then some r[m.toNat]else none)=some u
    have J:m.toNat<r.size:=I
    rw[dif_pos J];exact congrArg some this
   exact aR h (cv:= .int .u8 u.toNat) (by simp[execOp,O,e3,X,Instr.index,run_underlying U,asIntOf,W,KA]) (by simp only[aq])
  ·simp[Q.run]at D
 ·simp[Q.run]at D
theorem auO{d nx:Nat}{t e:TypeId}{x j:Operand}{H I:aP}{n:Nat}(O:o.op= .indexAddr t x j)(hx:eD x=some H)(R:eD j=some I)(U:P.underlying t=some (.slice e))(V:eC P e=some n)
  (D:(bt d st.rho (.ia H I n)).run st.get nx=some (.val v ups)):dP P B st a w β M o v ups:=by
 have J:=dC x H hx
 have N:=dC j I R
 have K: ∀(r off len F:Nat) k (m:Int),a.eval x= .slice (some ⟨r,off,none⟩) len F→a.eval j= .int k m→0≤m→m.toNat<len→(execOp a.eval o).run P w= .ok (.value (.pointer (some ⟨r,off+m.toNat*n,none⟩))) w:=by
  intro r off len F k m e1 e2 h1 h2
  have:0≤m∧m<(len:Int):=zZ
  simp[execOp,O,e1,e2,Instr.indexAt,run_underlying U,asIntOf,this,fU V,dG]
 simp only[bt]at D
 split at D
 ·rename_i jn cs len ex e1 e2
  split at D
  ·rename_i hc
   simp[Q.run]at D;obtain⟨rfl,rfl⟩:=D
   simp at hc
   obtain⟨k,m,W,X,rfl⟩:=ic e1
   rw[e2]at J;rw[W]at N
   simp only[aq,PRel]at J
   obtain⟨r,off,F,sp,e3,h1,h2,h5,h3⟩:=J
   obtain rfl:sp=none:=h5.resolve_right (by have:=hc.1;omega)
   refine aR h (K _ _ _ _ _ _ e3 N.int X hc.1) ?_
   simp only[aq,PRel]
   exact⟨_,_,rfl,PCells.drop _ h3 (by have:=hc.2;rw[Nat.add_mul]at this;omega)⟩
  ·simp[Q.run]at D
 ·grind [Q.run,aq,Nat.add_assoc,ic,aR]
 ·simp[Q.run]at D
theorem ajn{d nx:Nat}{t e:TypeId}{x j:Operand}{F H:aP}{len n:Nat}(N:o.op= .indexAddr t x j)(hx:eD x=some F)(O:eD j=some H)(R:P.underlying t=some (.array len e))(U:eC P e=some n)
  (D:(bt d st.rho (.iaA F H len n)).run st.get nx=some (.val v ups)):dP P B st a w β M o v ups:=by
 have I:=dC x F hx
 have K:=dC j H O
 have J: ∀(r off:Nat) k (m:Int),a.eval x= .pointer (some ⟨r,off,none⟩)→a.eval j= .int k m→0≤m→m.toNat<len→(execOp a.eval o).run P w= .ok (.value (.pointer (some ⟨r,off+m.toNat*n,none⟩))) w:=by
  intro r off k m e1 e2 h1 h2
  have:0≤m∧m<(len:Int):=zZ
  simp[execOp,N,e1,e2,Instr.indexAt,run_underlying R,asIntOf,Instr.sureAddr,this,fU U,dG]
 simp only[bt]at D
 split at D
 ·rename_i jn cs e1 e2
  split at D
  ·rename_i hc
   simp[Q.run]at D;obtain⟨rfl,rfl⟩:=D
   simp at hc
   obtain⟨k,m,V,W,rfl⟩:=ic e1
   rw[e2]at I;rw[V]at K
   simp only[aq,PRel]at I
   obtain⟨r,off,e3,h3⟩:=I
   refine aR h (J _ _ _ _ e3 K.int W hc.1) ?_
   simp only[aq,PRel]
   exact⟨_,_,rfl,PCells.drop _ h3 (by have:=hc.2;rw[Nat.add_mul]at this;omega)⟩
  ·simp[Q.run]at D
 ·grind [Q.run,aq,Nat.add_assoc,ic,aR]
 ·simp[Q.run]at D
end
end Go.Ev
namespace Go.Ev
open Go
theorem zQ(s:ByteArray)(l h:Nat):bytesN (s.extract l h)=((bytesN s).drop l).take (h-l):=by
 unfold bytesN
 simp_all
theorem dQ{P:Program}{w:World}{k:IntKind}{m:Int}{y:Nat}{code:BoundsCode}(h1:0≤m)(h2:m.toNat≤y):(Instr.sliceBound (.int k m) y code).run P w= .ok m.toNat w:=by
 have:0≤m∧m≤(y:Int):=zZ
 simp[Instr.sliceBound,asIntOf,this]
section
variable{P:Program}{B:eH}{st:St}{a:Act}{w:World}{β:aN}{M:MSet}{o:Oper}{v:T}{ups:List Up}
variable(dC:jE β st.gens w M st.rho a.eval)(h:aZ B st w β M)
include dC in
theorem qO{x:Option Operand}{D:Option aP}{r n:Nat}(hx:px x=some D)(e:dx st.rho r D=some n):
  (x=none∧D=none∧n=r)∨ ∃y k m,x=some y∧a.eval y= .int k m∧0≤m∧m.toNat=n:=by
 cases x with
 |none=>grind [px,dx]
 |some y=>
  simp only[px,Option.map_eq_some_iff]at hx
  obtain⟨F,H,rfl⟩:=hx
  simp only[dx]at e
  obtain⟨k,m,I,J,K⟩:=ic e
  have:=dC y F H
  rw[I]at this
  exact .inr ⟨y,k,m,rfl,this.int,J,K⟩
include dC in
theorem pg{lo hi:Option Operand}{D BR:Option aP}{isS:Bool}{len r l H:Nat}(h1:px lo=some D)(h2:px hi=some BR)(e1:dx st.rho 0 D=some l)(e2:dx st.rho len BR=some H)
  (I:l≤H) (hc:H≤len) (F:len≤r):(Instr.sliceBounds isS len r (lo.map a.eval) (hi.map a.eval) none).run P w= .ok (l,H,r) w:=by
 unfold Instr.sliceBounds
 rcases qO dC h1 e1 with⟨rfl,rfl,rfl⟩|⟨y,k,m,rfl,ey,hm,rfl⟩ <;> rcases qO dC h2 e2 with⟨rfl,rfl,rfl⟩|⟨y2,k2,m2,rfl,ey2,hm2,rfl⟩
 ·simp
 ·simp[ey2,dQ hm2 (Nat.le_trans hc F)]
 ·simp[ey,dQ hm I]
 ·simp[ey,ey2,dQ hm2 (Nat.le_trans hc F),dQ hm I]
include dC h
theorem ajo{d nx:Nat}{t:TypeId}{x:Operand}{F:aP}{lo hi:Option Operand}{D BR:Option aP}(J:o.op= .slice t x lo hi none)(hx:eD x=some F)(h1:px lo=some D)(h2:px hi=some BR)(K:P.underlying t=some .string)
  (r:(bt d st.rho (.slS F D BR)).run st.get nx=some (.val v ups)):dP P B st a w β M o v ups:=by
 have H:=dC x F hx
 simp only[bt]at r
 split at r
 ·rename_i R e
  rw[e]at H
  obtain⟨s,N,rfl⟩:=H.str
  split at r
  ·rename_i l I e1 e2
   split at r
   ·rename_i hc
    simp at hc
    simp[Q.run]at r;obtain⟨rfl,rfl⟩:=r
    rw[fu]at e2 hc
    have O:=pg (P:=P) (w:=w) (isS:=false) dC h1 h2 e1 e2 hc.1 hc.2 (Nat.le_refl _)
    refine aR h (cv:= .string (s.extract l I)) ?_ (by simp only[aq];exact⟨_,rfl,zQ s l I⟩)
    simp[execOp,J,N,Instr.sliceAt,run_underlying K,Instr.slice,O]
   ·simp[Q.run]at r
  ·simp[Q.run]at r
 ·simp[Q.run]at r
theorem ajp{d nx:Nat}{t e:TypeId}{n:Nat}{x:Operand}{W:aP}{lo hi mx:Option Operand}{R BR X:Option aP}(ho:o.op= .slice t x lo hi mx)(hx:eD x=some W)(h1:px lo=some R)(h2:px hi=some BR)(h3:px mx=some X)
  (ht:P.underlying t=some (.slice e)) (hn:eC P e=some n) (h0:n≠0) (hmx:mx.isSome=true→hi.isSome=true)
  (H:(bt d st.rho (.slV n W R BR X)).run st.get nx=some (.val v ups)):dP P B st a w β M o v ups:=by
 have I:=dC x W hx
 simp only[bt]at H
 cases D:kH (st.rho W)with
 |none=>grind [Q.run]
 |some len=>
  simp only[D]at H
  cases e1:dx st.rho 0 R with
  |none=>simp[e1,Q.run]at H
  |some l=>
   cases e2:dx st.rho len BR with
   |none=>grind [Q.run]
   |some N=>
    cases mx with
    |none=>
     simp[px]at h3;subst h3
     simp only[e1,e2,Q.run_bind]at H
     have J: ∀(K:Option Addr) r,a.eval x= .slice K len r→l≤N→N≤len→len≤r→
       (execOp a.eval o).run P w= .ok (.value (.slice (if r=l then K else K.map (·.add (l*n))) (N-l) (r-l))) w:=by
      intro K r ex J6 ZN hl3
      have hb:=pg (P:=P) (w:=w) (isS:=true) dC h1 h2 e1 e2 J6 ZN hl3
      simp[execOp,ho,ex,Instr.sliceAt,run_underlying ht,Instr.slice,hb,fU hn]
     cases hs:(xp n (st.rho W) l N).run st.get nx with
     |none=>simp[hs]at H
     |some v'=>
      simp[hs,Q.run]at H;obtain⟨rfl,rfl⟩:=H
      unfold xp at hs
      split at hs
      ·grind [Q.run,kH,aq,aR]
      ·rename_i cs Ur ex' ex
       rw[ex]at I D
       simp[kH]at D;subst D
       split at hs
       ·rename_i hc
        simp[Q.run]at hs;subst hs
        simp at hc
        obtain⟨⟨c1,c2⟩,c3⟩:=hc
        simp only[aq,PRel]at I
        obtain⟨F,off,r,sp,e3,p1,p2,p4,p3⟩:=I
        refine aR h (J _ _ e3 c1 c2 p1) ?_
        simp only[aq,PRel]
        by_cases O:r=l
        ·rw[if_pos O]
         have:N=l:=zZ
         subst this
         refine⟨F,off,r-N,sp,by simp,by omega,fun U=>by omega,.inr zZ, ?_⟩
         simp[PCells]
        ·rw[if_neg O]
         obtain rfl:sp=none:=p4.resolve_right zZ
         refine⟨F,off+l*n,r-l,none,by simp[dG],by omega,fun U=> ?_,.inl rfl, ?_⟩
         ·simp at U
          have:=p2 U.1
          omega
         ·refine PCells.take _ (PCells.drop _ p3 ?_)
          rw[c3];exact Nat.mul_le_mul_right n (Nat.le_trans c1 c2)
       ·simp[Q.run]at hs
      ·rename_i sp k g off Ur sz ex
       rw[ex]at I D
       simp[kH]at D;subst D
       split at hs
       ·rename_i hc
        simp[Q.run]at hs;subst hs
        simp at hc
        obtain⟨⟨c1,c2⟩,rfl⟩:=hc
        simp only[aq]at I
        obtain⟨q1,r,e3,p1,p2⟩:=I
        refine aR h (J _ _ e3 c1 c2 p1) ?_
        by_cases Y:l=N
        ·subst Y
         rw[if_pos rfl]
         by_cases Z:sp= .S∧l=0∧off=0
         ·rw[if_pos Z]
          obtain⟨_,rfl,rfl⟩:=Z
          simp only[aq]
          refine⟨q1,r, ?_,Nat.zero_le _,p2⟩
          by_cases O:r=0
          ·rw[if_pos O];simp
          ·rw[if_neg O];simp[dG]
         rw[if_neg Z]
         simp only[aq,PRel]
         by_cases O:r=l
         ·rw[if_pos O]
          exact⟨(β sp k g).blk,(β sp k g).off+off,r-l,none,by simp,by omega,(fun e=>by cases e),.inl rfl,by simp[PCells]⟩
         ·rw[if_neg O]
          exact⟨(β sp k g).blk,(β sp k g).off+off+l*sz,r-l,none,by simp[dG],by omega,(fun e=>by cases e),.inl rfl,by simp[PCells]⟩
        ·rw[if_neg Y,if_neg zZ]
         simp only[aq]
         refine⟨q1,r-l,by simp[dG,Nat.add_assoc],by omega, ?_⟩
         have:(r-l)*sz+l*sz=r*sz:=by rw[←Nat.add_mul];congr 1;omega
         omega
       ·simp[Q.run]at hs
      ·simp[Q.run]at hs
    |some m=>
     simp only[px,Option.map_eq_some_iff]at h3
     obtain⟨m',hm',rfl⟩:=h3
     have vm:=dC m m' hm'
     have J: ∀(K:Option Addr) r,a.eval x= .slice K len r→ ∀k (z:Int),a.eval m= .int k z→z=0→l=0→N=0→
       (execOp a.eval o).run P w= .ok (.value (.slice K 0 0)) w:=by
      intro K r ex k z em Z yo hh0
      subst Z;subst yo;subst hh0
      have hb:(Instr.sliceBounds true len r (lo.map a.eval) (hi.map a.eval) (some (.int k 0))).run P w= .ok (0,0,0) w:=by
       unfold Instr.sliceBounds
       rcases qO dC h2 e2 with⟨rfl,rfl,hx0⟩|⟨y2,k2,m2,rfl,ey2,hm2,ZO⟩
       ·simp at hmx
       ·have b1:=dQ (P:=P) (w:=w) (k:=k) (m:=0) (y:=r) (code:= .slice3Acap) zZ zP
        have b2:=dQ (P:=P) (w:=w) (k:=k2) (m:=m2) (y:=0) (code:= .slice3B) hm2 zZ
        rcases qO dC h1 e1 with⟨rfl,rfl,_⟩|⟨y,k1,m1,rfl,ey,hm,hz1⟩
        ·simp_all
        ·have b3:=dQ (P:=P) (w:=w) (k:=k1) (m:=m1) (y:=m2.toNat) (code:= .slice3C) hm zZ
         simp_all
      cases K <;> simp[execOp,ho,ex,em,Instr.sliceAt,run_underlying ht,Instr.slice,hb,fU hn]
     simp only[e1,e2]at H
     cases em:asNat (st.rho m')with
     |none=>simp[em,Q.run]at H
     |some z=>
      obtain⟨km,zm,ez,hz1,ZO⟩:=ic em
      rw[ez]at vm
      have vm':=vm.int
      split at H
      ·grind [aq,kH,Q.run,aR]
      ·rename_i V hne
       rw[em]at V
       simp at V;subst V
       split at H
       ·rename_i hc
        simp at hc
        simp[Q.run]at H;obtain⟨rfl,rfl⟩:=H
        have: ∃F off r sp,a.eval x= .slice (some ⟨F,off,sp⟩) len r:=by
         generalize st.rho W=tx at*
         cases tx <;> simp[kH]at D
         case nilsl=>exact absurd rfl hne
         case sl cs Ur ex=>
          subst D
          simp only[aq,PRel]at I
          obtain⟨F,off,r,sp,e3,_⟩:=I
          exact⟨F,off,r,sp,e3⟩
         case isl sp k g off Ur sz=>
          subst D
          simp only[aq]at I
          obtain⟨_,r,e3,_⟩:=I
          exact⟨_,_,r,none,e3⟩
        obtain⟨F,off,r,sp,e3⟩:=this
        refine aR h (J _ _ e3 km zm vm' zZ hc.1 hc.2) ?_
        simp only[aq,PRel]
        exact⟨F,off,0,sp,rfl,Nat.le_refl _,fun _=>rfl,.inr rfl,by simp[PCells]⟩
       ·simp[Q.run]at H
      ·simp[Q.run]at H
end
end Go.Ev
namespace Go.Ev
open Go
section
variable{P:Program}{B:eH}{st:St}{a:Act}{w:World}{β:aN}{M:MSet}{o:Oper}{v:T}{ups:List Up}
theorem KB{D:Bool}{x y:T}{F:List T}{r:T}(h:gb D x (y::F)=some r): ∃k n,x= .i k n:=by
 unfold gb at h
 grind
theorem dJ{c:Call}{b:Builtin}(r:o.op= .call c)(D:c.callee= .builtin b):
  (execOp a.eval o).run P w=(builtin b c.argTypes o.type (c.args.map fun| .const _=>true|_=>false) (c.args.map a.eval)).run P w:=by
 simp only[execOp,r,resolve,D,Sem.run_bind]
 rfl
theorem ue{args:Array Operand}{x:Operand}(h:args.toList= [x])(f:Operand→Value):args.map f= #[f x]:=by
 apply Array.ext';simp[h]
theorem aaP{args:Array Operand}{x y:Operand}(h:args.toList= [x,y])(f:Operand→Value):args.map f= #[f x,f y]:=by
 apply Array.ext';simp[h]
variable(dC:jE β st.gens w M st.rho a.eval)(h:aZ B st w β M)
include dC h
theorem aaQ{d nx:Nat}{c:Call}{t:TypeId}{x:Operand}{D:aP}(H:o.op= .call c)(I:c.callee= .builtin .len)(J:c.argTypes[0]? =some t)(K:c.args.toList= [x])(N:P.underlying t=some .string)(hx:eD x=some D)
  (r:(bt d st.rho (.lenS D)).run st.get nx=some (.val v ups)):dP P B st a w β M o v ups:=by
 have F:=dC x D hx
 simp only[bt]at r
 split at r
 ·rename_i R e
  simp[Q.run]at r;obtain⟨rfl,rfl⟩:=r
  rw[e]at F
  obtain⟨s,O,rfl⟩:=F.str
  refine aR h (cv:= .int .i64 s.size) ?_ (by simp only[aq,fu])
  rw[dJ H I,ue K]
  simp[builtin,Builtin.len_,J,O,run_underlying N,goInt]
 ·simp[Q.run]at r
theorem aaR{d nx:Nat}{c:Call}{t e:TypeId}{x:Operand}{r:aP}(J:o.op= .call c)(K:c.callee= .builtin .len)(N:c.argTypes[0]? =some t)(O:c.args.toList= [x])(R:P.underlying t=some (.slice e))(hx:eD x=some r)
  (F:(bt d st.rho (.lenV r)).run st.get nx=some (.val v ups)):dP P B st a w β M o v ups:=by
 have V:=dC x r hx
 simp only[bt]at F
 cases H:kH (st.rho r)with
 |none=>simp[H,Ev.val,Q.run]at F
 |some n=>
  simp[H,Ev.val,Q.run]at F;obtain⟨rfl,rfl⟩:=F
  have: ∃I D,a.eval x= .slice I n D:=by
   generalize st.rho r=U at*
   cases U <;> simp[kH]at H
   case nilsl=>grind [aq]
   case sl cs Ur ex=>grind [aq,PRel]
   grind [aq]
  obtain⟨I,D,e1⟩:=this
  refine aR h (cv:= .int .i64 n) ?_ (by simp only[aq])
  rw[dJ J K,ue O]
  simp[builtin,Builtin.len_,N,e1,run_underlying R,goInt]
theorem aaS{d nx:Nat}{c:Call}{t Y Z:TypeId}{x:Operand}{K:aP}(N:o.op= .call c)(O:c.callee= .builtin .len)(R:c.argTypes[0]? =some t)(U:c.args.toList= [x])(V:P.underlying t=some (.map Y Z))(hx:eD x=some K)
  (D:(bt d st.rho (.lenM K)).run st.get nx=some (.val v ups)):dP P B st a w β M o v ups:=by
 have H:=dC x K hx
 have J: ∀F I r,a.eval x= .map (some F)→w.heap[F]? =some (.map I r)→(execOp a.eval o).run P w= .ok (.value (.int .i64 I.size)) w:=by
  intro F I r e1 e2
  rw[dJ N O,ue U]
  simp[builtin,Builtin.len_,R,e1,run_underlying V,goInt,getObj,Sem.run,e2]
 simp only[bt]at D
 split at D
 ·rename_i e
  simp[Q.run]at D;obtain⟨rfl,rfl⟩:=D
  rw[e]at H;simp only[aq]at H
  refine aR h (cv:= .int .i64 0) ?_ (by simp only[aq])
  rw[dJ N O,ue U]
  simp[builtin,Builtin.len_,R,H,run_underlying V,goInt]
 ·rename_i ks vs e
  simp[Q.run]at D;obtain⟨rfl,rfl⟩:=D
  rw[e]at H;simp only[aq,PRel]at H
  obtain⟨F,I,r,e1,e2,_,_,e3,_⟩:=H
  refine aR h (J F I r e1 e2) ?_
  simp only[aq]
  have:=PList.length _ _ e3
  grind
 ·rename_i sp k g e
  simp only[Q.run]at D
  split at D
  ·rename_i W
   have X:=h.obj sp k
   generalize he:st.get sp k=en at*
   obtain⟨ge,ob⟩:=en
   dsimp only at W;subst W
   cases ob with
   |none=>simp[Q.run]at D
   |cells _ _ _=>simp[Q.run]at D
   |map ks vs f=>
    simp[Q.run]at D;obtain⟨rfl,rfl⟩:=D
    rw[e]at H;simp only[aq]at H
    unfold dF at X
    obtain⟨I,r,e2,_,e3,_⟩:=X
    refine aR h (J _ I r H.2 e2) ?_
    simp only[aq]
    have:=PList.length _ _ e3
    simp at this;rw[this]
  ·simp[Q.run]at D
 ·simp[Q.run]at D
omit dC in
theorem aaT{c:Call}{t e:TypeId}{n:Nat}{x:Operand}(r:o.op= .call c)(D:c.callee= .builtin .len)(F:c.argTypes[0]? =some t)(H:c.args.toList= [x])(I:P.underlying t=some (.array n e)):
  dP P B st a w β M o (.i .i64 n) []:=by
 refine aR h (cv:= .int .i64 n) ?_ (by simp only[aq])
 rw[dJ r D,ue H]
 simp[builtin,Builtin.len_,F,run_underlying I,goInt]
omit dC h in
theorem MT{k:IntKind}: ∀(D:List T) (H:List Value) (x:Int) (r:T),au β st.gens w M D H→gb false (.i k x) D=some r→ ∃n,r= .i k n∧(H.foldlM Builtin.min2 (.int k x)).run P w= .ok (.int k n) w
 | [],H,x,r,I,F=>by
   simp_all[au,gb]
 |t::ts,H,x,r,I,F=>by
  simp only[au]at I
  obtain⟨u,us,rfl,h1,h2⟩:=I
  cases t <;> simp only[gb]at F <;> try (cases F;done)
  rename_i k' y
  split at F
  ·rename_i hk;subst hk
   have:=h1.int;subst this
   obtain⟨n,e1,e2⟩:=MT ts us _ r h2 F
   grind [Sem.run_bind,Builtin.min2,Sem.run_pure,Result.andThen_ok]
  ·cases F
omit dC h in
theorem MU{k:IntKind}: ∀(D:List T) (H:List Value) (x:Int) (r:T),au β st.gens w M D H→gb true (.i k x) D=some r→ ∃n,r= .i k n∧(H.foldlM Builtin.max2 (.int k x)).run P w= .ok (.int k n) w
 | [],H,x,r,I,F=>by
   simp_all[au,gb]
 |t::ts,H,x,r,I,F=>by
  simp only[au]at I
  obtain⟨u,us,rfl,h1,h2⟩:=I
  cases t <;> simp only[gb]at F <;> try (cases F;done)
  rename_i k' y
  split at F
  ·rename_i hk;subst hk
   have:=h1.int;subst this
   obtain⟨n,e1,e2⟩:=MU ts us _ r h2 F
   grind [Sem.run_bind,Builtin.max2,Sem.run_pure,Result.andThen_ok]
  ·cases F
theorem ag2{d nx:Nat}{D:Bool}{c:Call}{as:List aP}(J:o.op= .call c)(K:c.callee= .builtin (if D then .max else .min))(U:tS c.args.toList=some as)
  (I:(bt d st.rho (.mm D as)).run st.get nx=some (.val v ups)):dP P B st a w β M o v ups:=by
 have N:=qN dC U
 simp only[bt]at I
 split at I
 ·rename_i x F e
  cases H:gb D x F with
  |none=>simp[H,Ev.val,Q.run]at I
  |some r=>
   simp[H,Ev.val,Q.run]at I;obtain⟨rfl,rfl⟩:=I
   rw[e]at N
   simp only[au]at N
   obtain⟨u,us,e2,h1,h2⟩:=N
   cases F with
   |nil=>
    simp[gb]at H;subst H
    simp only[au]at h2;subst h2
    refine aR h (cv:=u) ?_ h1
    rw[dJ J K]
    cases D <;> simp[builtin,Builtin.min_,Builtin.max_,e2]
   |cons y O=>
    obtain⟨k,R,rfl⟩:=KB H
    have:=h1.int;subst this
    cases D with
    |false=>
     obtain⟨n,e3,e4⟩:=MT (P:=P) (y::O) us R r h2 H
     subst e3
     refine aR h (cv:= .int k n) ?_ (by simp only[aq])
     rw[dJ J K]
     simp[builtin,Builtin.min_,e2,e4]
    |true=>
     obtain⟨n,e3,e4⟩:=MU (P:=P) (y::O) us R r h2 H
     subst e3
     refine aR h (cv:= .int k n) ?_ (by simp only[aq])
     rw[dJ J K]
     simp[builtin,Builtin.max_,e2,e4]
 ·simp[Q.run]at I
end
theorem oy{P:Program}{t:TypeId}{k:CK}(h:rE P t=some k):match k with| .int=> ∃r,P.underlying t=some (.int r)| .str=>P.underlying t=some .string| .bool=>P.underlying t=some .bool:=by
 grind [rE]
theorem sD{P:Program}{β:aN}{G:Sp→Nat→Nat}{w:World}{M:MSet}{t:TypeId}{k:CK}{x y:T}{cx H:Value}{r:Bool}(d:Nat)(hk:rE P t=some k)(hx:aq β G w M x cx)(F:aq β G w M y H)(h:ep k x y=some r):
  (Op.equalIn (d+1) t cx H).run P w= .ok r w:=by
 have D:=oy hk
 unfold ep at h
 split at h
 ·simp at h;subst h
  rw[hx.bool,F.bool]
  exact run_equalIn_bool' w d t _ _ D
 ·split at h
  ·rename_i e;subst e
   simp at h;subst h
   obtain⟨I,D⟩:=D
   rw[hx.int,F.int]
   exact run_equalIn_int w d t _ I _ _ D
  ·cases h
 ·simp at h;subst h
  obtain⟨bx,e1,rfl⟩:=hx.str
  obtain⟨J,e2,rfl⟩:=F.str
  rw[e1,e2,run_equalIn_string w d t _ _ D,bytesN_toList,bytesN_toList,fI]
 ·cases h
theorem uf{P:Program}{β:aN}{G:Sp→Nat→Nat}{w:World}{M:MSet}(d:Nat){I J:Array Value}{xs F:List T}(hx:au β G w M xs I.toList)(U:au β G w M F J.toList):
  ∀(H:List Field) (i:Nat) (ks:List CK) (r:Bool),iD P i H=some ks→bW ks (xs.drop i) (F.drop i)=some r→(Op.eqFields (d+1) I J H).run P w= .ok r w
 | [],i,ks,r,hk,D=>by
   simp[iD]at hk;subst hk
   generalize xs.drop i=V at D
   generalize F.drop i=yd at D
   cases V <;> cases yd <;> simp[bW]at D
   subst D;simp[Op.eqFields]
 |f::H,i,ks,r,hk,D=>by
  simp only[iD]at hk
  split at hk
  ·rename_i hc
   simp at hc
   obtain⟨⟨c1,W⟩,c3⟩:=hc
   split at hk
   ·rename_i k K h1 h2
    simp at hk;subst hk
    cases J7:xs.drop i with
    |nil=>grind [bW]
    |cons x X=>
     cases BS:F.drop i with
     |nil=>grind [bW]
     |cons y Y=>
      rw[J7,BS]at D
      simp only[bW]at D
      have Z:xs[i]? =some x:=by have:=congrArg (·[0]?) J7;simpa using this
      have gy:F[i]? =some y:=by have:=congrArg (·[0]?) BS;simpa using this
      obtain⟨cx,ax,vx⟩:=hx.get Z
      obtain⟨cy,ay,vy⟩:=U.get gy
      have agg:py P f.type=some false:=by
       have:=oy h1
       grind [py]
      have iQ:(Go.part f.type I f.offset).run P w= .ok cx w:=by
       simp_all[Go.part,Sem.run_bind,lz,Result.andThen_ok]
      have N:(Go.part f.type J f.offset).run P w= .ok cy w:=by
       simp_all[Go.part,Sem.run_bind,lz,Result.andThen_ok]
      have O:xs.drop (i+1)=X:=by rw[←List.drop_drop,J7];rfl
      have R:F.drop (i+1)=Y:=by rw[←List.drop_drop,BS];rfl
      simp only[Op.eqFields,if_pos (show f.name≠ "_" from W),Sem.run_bind,iQ,N,Result.andThen_ok]
      cases hc:ep k x y with
      |none=>simp[hc]at D
      |some b=>
       rw[sD d h1 vx vy hc]
       cases b with
       |false=>simp[hc]at D;subst D;simp
       |true=>
        simp only[hc]at D
        simp only[Result.andThen_ok,Bool.not_true,Bool.false_eq_true,if_false]
        exact uf d hx U H (i+1) K r h2 (by rw[O,R];exact D)
   ·cases hk
  ·cases hk
theorem xu{P:Program}{β:aN}{G:Sp→Nat→Nat}{w:World}{M:MSet}(d:Nat){e:TypeId}{k:CK}(hk:rE P e=some k){I J:Array Value}{xs F:List T}(hx:au β G w M xs I.toList)(R:au β G w M F J.toList):
  ∀(n i:Nat) (r:Bool),bW (List.replicate n k) (xs.drop i) (F.drop i)=some r→(Op.eqItems (d+1) e 1 I J (List.range' i n)).run P w= .ok r w
 |0,i,r,D=>by
  generalize xs.drop i=V at D
  generalize F.drop i=yd at D
  cases V <;> cases yd <;> simp[bW]at D
  subst D;simp[Op.eqItems]
 |n+1,i,r,D=>by
  rw[List.replicate_succ]at D
  cases J7:xs.drop i with
  |nil=>rw[J7]at D;cases F.drop i <;> simp[bW]at D
  |cons x W=>
   cases BS:F.drop i with
   |nil=>rw[J7,BS]at D;simp[bW]at D
   |cons y X=>
    rw[J7,BS]at D
    simp only[bW]at D
    have Y:xs[i]? =some x:=by have:=congrArg (·[0]?) J7;simpa using this
    have Z:F[i]? =some y:=by have:=congrArg (·[0]?) BS;simpa using this
    obtain⟨cx,ax,vx⟩:=hx.get Y
    obtain⟨U,ay,vy⟩:=R.get Z
    have H:py P e=some false:=by
     have:=oy hk
     unfold py
     cases k
     ·obtain⟨ik,e⟩:=this;simp[e]
     ·simp[this]
     ·simp[this]
    have iQ:(Go.part e I (i*1)).run P w= .ok cx w:=by
     unfold Go.part;simp only[Sem.run_bind,lz H,Result.andThen_ok]
     have:I[i]? =some cx:=by simpa using ax
     simp[this]
    have K:(Go.part e J (i*1)).run P w= .ok U w:=by
     unfold Go.part;simp only[Sem.run_bind,lz H,Result.andThen_ok]
     have:J[i]? =some U:=by simpa using ay
     simp[this]
    have N:xs.drop (i+1)=W:=by rw[←List.drop_drop,J7];rfl
    have O:F.drop (i+1)=X:=by rw[←List.drop_drop,BS];rfl
    simp only[List.range'_succ,Op.eqItems,Sem.run_bind,iQ,K,Result.andThen_ok]
    cases hc:ep k x y with
    |none=>simp[hc]at D
    |some b=>
     rw[sD d hk vx vy hc]
     cases b with
     |false=>simp[hc]at D;subst D;simp
     |true=>
      simp only[hc]at D
      simp only[Result.andThen_ok,Bool.not_true,Bool.false_eq_true,if_false]
      exact xu d hk hx R n (i+1) r (by rw[N,O];exact D)
theorem lA{P:Program}{t:TypeId}{k:EK}(h:zL P t=some k):match k with
  | .one c=>rE P t=some c
  | .flat ks=>P.eqGuardType P.depth t=false∧((∃r,P.underlying t=some (.struct r)∧P.stoodInHeld t=false∧iD P 0 r.toList=some ks)∨ ∃n e c,P.underlying t=some (.array n e)∧P.cellsOf e=1∧rE P e=some c∧ks=List.replicate n c)
  | .sl=> ∃e,P.underlying t=some (.slice e)
  | .ptr=> ∃e,P.underlying t=some (.pointer e)
  | .map=> ∃a b,P.underlying t=some (.map a b):=by
 unfold zL at h
 split at h
 ·simp at h;subst h;rename_i e;simp[rE,e]
 ·simp at h;subst h;rename_i e;simp[rE,e]
 ·simp at h;subst h;rename_i e;simp[rE,e]
 ·simp at h;subst h;rename_i x e;exact⟨x,e⟩
 ·simp at h;subst h;rename_i x e;exact⟨x,e⟩
 ·simp at h;subst h;rename_i x y e;exact⟨x,y,e⟩
 ·rename_i r e
  split at h
  ·rename_i hc
   simp only[Option.map_eq_some_iff]at h
   obtain⟨ks,h1,rfl⟩:=h
   simp at hc
   exact⟨hc.1,.inl ⟨r,e,hc.2,h1⟩⟩
  ·cases h
 ·rename_i n e D
  split at h
  ·rename_i hc
   simp only[Option.map_eq_some_iff]at h
   obtain⟨c,h1,rfl⟩:=h
   simp at hc
   exact⟨hc.1,.inr ⟨n,e,c,D,hc.2,h1,rfl⟩⟩
  ·cases h
 ·cases h
theorem xX{P:Program}(w:World)(d:Nat)(t e:TypeId)(p:Option Addr)(h:P.underlying t=some (.pointer e)):(Op.equalIn (d+1) t (.pointer p) (.pointer none)).run P w= .ok p.isNone w:=by
 cases p <;> simp[Op.equalIn,run_underlying h]
theorem mH{P:Program}(w:World)(t e:TypeId)(p:Option Addr)(h:P.underlying t=some (.pointer e)):(Op.equal t (.pointer p) (.pointer none)).run P w= .ok p.isNone w:=xX w 9999 t e p h
theorem MV{P:Program}{β:aN}{G:Sp→Nat→Nat}{w:World}{M:MSet}{t:TypeId}{k:EK}{x y:T}{cx O:Value}{r:Bool}(hk:zL P t=some k)(hx:aq β G w M x cx)(F:aq β G w M y O)(h:rD k x y=some r):
  (Op.equal t cx O).run P w= .ok r w:=by
 have D:=lA hk
 unfold rD at h
 split at h
 ·exact sD 9999 D hx F h
 ·rename_i ks xs ys
  simp only[aq]at hx F
  obtain⟨R,rfl,U,_⟩:=hx
  obtain⟨V,rfl,W,_⟩:=F
  obtain⟨u2,⟨Y,J,N,K⟩|⟨n,e,c,J,N,K,rfl⟩⟩:=D
  ·have X:P.fieldsOf t=Y:=by simp[Program.fieldsOf,J]
   have:=run_equalIn_struct w 9999 t R V (by rw[X];exact J) N
   rw[X]at this
   exact this.trans (uf 9998 U W _ 0 ks r K (by simpa using h))
  ·obtain⟨Z,hi⟩: ∃i,P.info? e=some i:=by
    cases H:P.underlying e with
    |none=>simp[rE,H]at K
    |some _=>exact info_of_underlying H
   have:=run_equalIn_array w 9999 R V J hi
   rw[N,List.range_eq_range']at this
   exact this.trans (xu 9998 K U W n 0 r (by simpa using h))
 ·simp at h;subst h
  obtain⟨e,D⟩:=D
  simp only[aq]at hx F;subst hx;subst F
  exact run_equal_slice_nil w t e _ _ _ D
 ·simp at h;subst h
  obtain⟨e,D⟩:=D
  simp only[aq,PRel]at hx F
  obtain⟨_,_,_,_,rfl,_⟩:=hx;subst F
  exact run_equal_slice_nil w t e _ _ _ D
 ·simp at h;subst h
  obtain⟨e,D⟩:=D
  simp only[aq]at hx F
  obtain⟨_,_,rfl,_⟩:=hx;subst F
  exact run_equal_slice_nil w t e _ _ _ D
 ·grind [aq,mH]
 ·grind [aq,PRel,mH]
 ·grind [aq,mH]
 ·simp at h;subst h
  obtain⟨e,I,D⟩:=D
  simp only[aq]at hx F;subst hx;subst F
  exact run_equal_map_nil w t e I _ D
 ·simp at h;subst h
  obtain⟨e,I,D⟩:=D
  simp only[aq,PRel]at hx F
  obtain⟨_,_,_,rfl,_⟩:=hx;subst F
  exact run_equal_map_nil w t e I _ D
 ·simp at h;subst h
  obtain⟨e,I,D⟩:=D
  simp only[aq]at hx F
  obtain⟨_,rfl⟩:=hx;subst F
  exact run_equal_map_nil w t e I _ D
 ·cases h
end Go.Ev
namespace Go.Ev
open Go
section
variable{P:Program}{B:eH}{st:St}{a:Act}{w:World}{β:aN}{M:MSet}{o:Oper}{v:T}{ups:List Up}
variable(dC:jE β st.gens w M st.rho a.eval)(h:aZ B st w β M)
include dC h in
theorem MW{neg:Bool}{k:EK}{t V:TypeId}{x y:Operand}{N O:aP}(U:o.op= .binOp (if neg then .neq else .eql) t x y V)(hx:eD x=some N)(W:eD y=some O)(hk:zL P t=some k)(hn:k≠ .one .int∧k≠ .one .str){r:Bool}
  (K:rD k (st.rho N) (st.rho O)=some r):dP P B st a w β M o (.b (r != neg)) []:=by
 have F:=dC x N hx
 have H:=dC y O W
 have R:=MV (P:=P) hk F H K
 have X:=lA hk
 refine aR h (cv:= .bool (r != neg)) ?_ (by simp only[aq])
 generalize st.rho N=tx at*
 generalize st.rho O=ty at*
 have D: ∀cx I,a.eval x=cx→a.eval y=I→(eqGuard (if neg then .neq else .eql) t x y cx I).run P w= .ok () w→
   ((binOp .eql t cx I)=(do pure (.bool (←Op.equal t cx I))))→((binOp .neq t cx I)=(do pure (.bool (!(←Op.equal t cx I)))))→(execOp a.eval o).run P w= .ok (.value (.bool (r != neg))) w:=by
  intro cx I e1 e2 e3 e4 e5
  rw[e1,e2]at R
  cases neg
  ·simp at e3
   simp[execOp,U,e1,e2,e3,e4,R]
  ·simp at e3
   simp[execOp,U,e1,e2,e3,e5,R]
 have J: ∀cx I,(∀z,cx≠ .agg z)→cx≠ .nilIface→(eqGuard (if neg then .neq else .eql) t x y cx I).run P w= .ok () w:=by
  intro cx I h1 h2
  cases neg <;> cases cx <;> simp[eqGuard]at*
 unfold rD at K
 split at K
 ·rename_i c
  unfold ep at K
  split at K
  ·exact D _ _ F.bool H.bool (J _ _ zP zP) rfl rfl
  ·grind
  ·grind
  ·cases K
 ·obtain⟨Y,_⟩:=X
  simp only[aq]at F H
  obtain⟨Z,e1,_⟩:=F
  obtain⟨ya,e2,_⟩:=H
  exact D _ _ e1 e2 (run_eqGuard_agg w _ t x y Z ya Y) rfl rfl
 ·simp only[aq]at F H
  exact D _ _ F H (J _ _ zP zP) rfl rfl
 ·simp only[aq,PRel]at F H
  obtain⟨_,_,_,_,e1,_⟩:=F
  exact D _ _ e1 H (J _ _ zP zP) rfl rfl
 ·simp only[aq]at F H
  obtain⟨_,_,e1,_⟩:=F
  exact D _ _ e1 H (J _ _ zP zP) rfl rfl
 ·simp only[aq]at F H
  exact D _ _ F H (J _ _ zP zP) rfl rfl
 ·simp only[aq,PRel]at F H
  obtain⟨_,_,e1,_⟩:=F
  exact D _ _ e1 H (J _ _ zP zP) rfl rfl
 ·simp only[aq]at F H
  exact D _ _ F.2 H (J _ _ zP zP) rfl rfl
 ·simp only[aq]at F H
  exact D _ _ F H (J _ _ zP zP) rfl rfl
 ·simp only[aq,PRel]at F H
  obtain⟨_,_,_,e1,_⟩:=F
  exact D _ _ e1 H (J _ _ zP zP) rfl rfl
 ·simp only[aq]at F H
  exact D _ _ F.2 H (J _ _ zP zP) rfl rfl
 ·cases K
end
theorem KC{P:Program}{β:aN}{G:Sp→Nat→Nat}{w:World}{M:MSet}{t:TypeId}{c:CK}{D:TypeDesc}{k x:T}{kv F:Value}{b:Bool}(hc:rE P t=some c)(r:P.underlying t=some D)(hk:aq β G w M k kv)(hx:aq β G w M x F)(h:ep c k x=some b):
  Instr.sameNow D kv F=some b:=by
 have KA:=oy hc
 unfold ep at h
 split at h
 ·simp at h;subst h
  rw[hk.bool,hx.bool]
  simp only at KA
  rw[r]at KA;simp at KA;subst KA
  rfl
 ·split at h
  ·rename_i e;subst e
   simp at h;subst h
   obtain⟨H,KA⟩:=KA
   rw[r]at KA;simp at KA;subst KA
   rw[hk.int,hx.int];simp[Instr.sameNow]
  ·cases h
 ·simp at h;subst h
  simp only at KA
  rw[r]at KA;simp at KA;subst KA
  obtain⟨I,e1,rfl⟩:=hk.str
  obtain⟨J,e2,rfl⟩:=hx.str
  rw[e1,e2]
  simp[Instr.sameNow,beq_toListBytes,bytesN_toList,fI]
 ·cases h
def Found(F:List MapEntry)(off:Nat)(r:Option Nat)(D:Option (Nat×Value)):Prop:=
 match r with
 |none=>D=none
 |some i=> ∃e,F[i]? =some e∧D=some (off+i,e.val)
theorem zS{P:Program}{β:aN}{G:Sp→Nat→Nat}{w:World}{M:MSet}{t:TypeId}{c:CK}{K:TypeDesc}{k:T}{kv:Value}(hc:rE P t=some c)(N:P.underlying t=some K)(hk:aq β G w M k kv):
  ∀(H:List MapEntry) (ks:List T) (off:Nat) (r:Option Nat),PList w M ks (H.map (·.key))→fZ (.one c) k ks=some r→ ∃D,Instr.findNow K kv H off=some D∧Found H off r D
 | [],ks,off,r,I,F=>by
   cases ks with
   |nil=>simp[fZ]at F;subst F;exact⟨none,rfl,rfl⟩
   |cons x xs=>simp[PList]at I
 |e::H,ks,off,r,I,F=>by
  cases ks with
  |nil=>simp[PList]at I
  |cons x xs=>
   simp only[List.map_cons,PList,List.cons.injEq]at I
   obtain⟨u,us,⟨rfl,rfl⟩,h1,h2⟩:=I
   simp only[fZ,rD]at F
   cases J:ep c k x with
   |none=>simp[J]at F
   |some b=>
    have hs:=KC hc N hk (PRel.toV β G _ _ h1) J
    cases b with
    |true=>
     simp[J]at F;subst F
     exact⟨some (off,e.val),by simp[Instr.findNow,hs],e,rfl,rfl⟩
    |false=>
     simp only[J,Option.map_eq_some_iff]at F
     obtain⟨O,h3,rfl⟩:=F
     obtain⟨D,e1,e2⟩:=zS hc N hk H xs (off+1) O h2 h3
     refine⟨D,by simp[Instr.findNow,hs,e1], ?_⟩
     cases O with
     |none=>exact e2
     |some i=>
      obtain⟨R,a1,a2⟩:=e2
      exact⟨R,by simpa using a1,by rw[a2];simp;omega⟩
theorem rV{P:Program}{β:aN}{G:Sp→Nat→Nat}{w:World}{M:MSet}{t:TypeId}{K:EK}{k:T}{kv:Value}(hc:zL P t=some K)(hk:aq β G w M k kv):
  ∀(H:List MapEntry) (ks:List T) (off:Nat) (r:Option Nat),PList w M ks (H.map (·.key))→fZ K k ks=some r→ ∃D,(Instr.findAsking t kv H off).run P w= .ok D w∧Found H off r D
 | [],ks,off,r,I,F=>by
   cases ks with
   |nil=>simp[fZ]at F;subst F;exact⟨none,by simp[Instr.findAsking],rfl⟩
   |cons x xs=>simp[PList]at I
 |e::H,ks,off,r,I,F=>by
  cases ks with
  |nil=>simp[PList]at I
  |cons x xs=>
   simp only[List.map_cons,PList,List.cons.injEq]at I
   obtain⟨u,us,⟨rfl,rfl⟩,h1,h2⟩:=I
   simp only[fZ]at F
   cases J:rD K k x with
   |none=>simp[J]at F
   |some b=>
    have hs:=MV (P:=P) hc hk (PRel.toV β G _ _ h1) J
    cases b with
    |true=>
     simp[J]at F;subst F
     exact⟨some (off,e.val),by simp[Instr.findAsking,hs],e,rfl,rfl⟩
    |false=>
     simp only[J,Option.map_eq_some_iff]at F
     obtain⟨N,h3,rfl⟩:=F
     obtain⟨D,e1,e2⟩:=rV hc hk H xs (off+1) N h2 h3
     refine⟨D,by simp[Instr.findAsking,hs,e1], ?_⟩
     cases N with
     |none=>exact e2
     |some i=>
      obtain⟨O,a1,a2⟩:=e2
      exact⟨O,by simpa using a1,by rw[a2];simp;omega⟩
theorem Ed{P:Program}{t:TypeId}{r:EK}(h:keyOf P t=some r):zL P t=some r∧((∃c,r= .one c)∨ ∃ks,r= .flat ks):=by
 grind [keyOf]
theorem Us{P:Program}{t:TypeId}{ks:List CK}(h:keyOf P t=some (.flat ks)): ∃r,P.underlying t=some (.struct r)∧iD P 0 r.toList=some ks:=by
 have F:=(Ed h).1
 unfold keyOf at h
 rw[F]at h
 obtain⟨_,⟨r,D,_,H⟩|⟨n,e,c,D,_⟩⟩:=lA F
 ·exact⟨r,D,H⟩
 ·simp[D]at h
theorem oz{P:Program}{β:aN}{G:Sp→Nat→Nat}{w:World}{M:MSet}{t:TypeId}{K:EK}{k:T}{kv:Value}(hc:keyOf P t=some K)(hk:aq β G w M k kv)(F:List MapEntry)(ks:List T)(r:Option Nat)(I:PList w M ks (F.map (·.key)))
  (H:fZ K k ks=some r): ∃D,(Instr.findKey t kv F).run P w= .ok D w∧Found F 0 r D:=by
 obtain⟨N,V⟩:=Ed hc
 unfold Instr.findKey
 rcases V with⟨c,rfl⟩|⟨ck,rfl⟩
 ·have J:=lA N
  simp only at J
  have: ∃O,P.underlying t=some O:=by
   have:=oy J
   grind
  obtain⟨O,R⟩:=this
  obtain⟨D,e1,e2⟩:=zS J R hk F ks 0 r I H
  exact⟨D,by simp[run_underlying R,e1],e2⟩
 ·obtain⟨W,U,_⟩:=Us hc
  obtain⟨D,e1,e2⟩:=rV (P:=P) N hk F ks 0 r I H
  cases F with
  |nil=>
   refine⟨D, ?_,e2⟩
   have:D=none:=by
    cases ks with
    |nil=>simp[fZ]at H;subst H;exact e2
    |cons x xs=>simp[PList]at I
   subst this
   simp[run_underlying U,Instr.findNow]
  |cons e F=>
   refine⟨D, ?_,e2⟩
   have:Instr.sameNow (.struct W) kv e.key=none:=by unfold Instr.sameNow;split <;> simp_all
   simp[run_underlying U,Instr.findNow,this,e1]
theorem ug{P:Program}{w:World}{t:TypeId}{c:CK}(hc:rE P t=some c)(n:Nat)(r:Bool)(v:Value):(Instr.checkKey r (n+1) t v).run P w= .ok () w:=by
 have:=oy hc
 cases c
 ·obtain⟨D,e⟩:=this;simp[Instr.checkKey,run_underlying e]
 ·simp[Instr.checkKey,run_underlying this]
 ·simp[Instr.checkKey,run_underlying this]
theorem ph{P:Program}{w:World}(n:Nat)(F:Bool)(cs:Array Value): ∀(r:List Field) (i:Nat) (ks:List CK),iD P i r=some ks→i+ks.length≤cs.size→
  (forIn r PUnit.unit (fun f (_:PUnit)=>
    if f.name≠ "_" then(do
     let p ←Go.part f.type cs f.offset
     Instr.checkKey F (n+1) f.type p
     pure (ForInStep.yield PUnit.unit))else pure (ForInStep.yield PUnit.unit):Field→PUnit→Sem (ForInStep PUnit))).run P w= .ok PUnit.unit w
 | [],i,ks,hk,hs=>by simp
 |f::r,i,ks,hk,hs=>by
  simp only[iD]at hk
  split at hk
  ·rename_i hc
   simp at hc
   obtain⟨⟨I,J⟩,K⟩:=hc
   split at hk
   ·rename_i k D h1 h2
    simp at hk;subst hk
    have H:py P f.type=some false:=by
     have:=oy h1
     grind [py]
    have hi:i<cs.size:=by simp at hs;omega
    have N:(Go.part f.type cs f.offset).run P w= .ok cs[i] w:=by
     simp_all[Go.part,Sem.run_bind,lz,Result.andThen_ok,Array.getElem?_eq_getElem]
    have ih:=ph (P:=P) (w:=w) n F cs r (i+1) D h2 (by simp at hs;omega)
    grind [Sem.run_bind,Result.andThen_ok,ug,Sem.run_pure]
   ·cases hk
  ·cases hk
theorem xw{P:Program}{β:aN}{G:Sp→Nat→Nat}{w:World}{M:MSet}{t:TypeId}{F:EK}{k:T}{kv:Value}(hc:keyOf P t=some F)(hk:aq β G w M k kv)(MX:isKey F k=true)(n:Nat)(D:Bool):
  (Instr.checkKey D (n+2) t kv).run P w= .ok () w:=by
 obtain⟨I,J⟩:=Ed hc
 rcases J with⟨c,rfl⟩|⟨ck,rfl⟩
 ·exact ug (lA I) (n+1) D kv
 ·obtain⟨K,N,O⟩:=Us hc
  unfold isKey at MX
  split at MX
  ·simp_all
  ·rename_i ks xs e
   simp at e;subst e
   simp only[aq]at hk
   obtain⟨r,rfl,R,_⟩:=hk
   have H:ck.length≤r.size:=by
    have h1:=au.length _ _ R
    have: ∀(ks:List CK) (xs:List T),kG ks xs=true→ks.length=xs.length:=by
     intro ks
     induction ks with
     |nil=>intro xs h;cases xs <;> simp[kG]at h ⊢
     |cons k ks ih=>intro xs h;cases xs <;> simp[kG]at h ⊢; exact ih _ h.2
    grind
   have:=ph (P:=P) (w:=w) n D r K.toList 0 ck O zZ
   rw[Instr.checkKey]
   simp only[Sem.run_bind,run_underlying N,Result.andThen_ok]
   simp_all
  ·cases MX
end Go.Ev
