/- A tree evaluator over the model, proved against it (part B): where it answers, the call returns that answer. Conditions: none beyond its theorems' own. -/
import Derived.Test.YtnkgnjecmfkcfaaGreatEvA
import Derived.Laws.Cells
import Derived.Laws.CopyRow
import Derived.Laws.AppendOwn
import Derived.Laws.Entries
import Derived.Laws.StructEq
import Derived.Laws.Cover3
import Derived.ChangeKeysEq
set_option linter.all false
namespace Go.Ev
open Go
theorem tm{w:World}{M:MSet}{v:Value}{t:T}(h:si v=some t):PRel w M t v∧single t=true:=by
 unfold si at h
 grind [PRel,single,PList]
theorem qR{w:World}{M:MSet}: ∀{r:List Value} {ts:List T},jR r=some ts→PList w M ts r∧ts.all single=true
 | [],ts,h=>by grind [jR,PList]
 |v::r,ts,h=>by
  simp only[jR]at h
  split at h
  ·rename_i t BL h1 h2
   simp at h;subst h
   have a:=tm (w:=w) (M:=M) h1
   have b:=qR (w:=w) (M:=M) h2
   simp only[PList,List.all_cons,Bool.and_eq_true]
   grind
  ·simp at h
def ma{w:World}{M:MSet}{v:Value}{t:T}(h:BG v=some t):PRel w M t v:=by
 unfold BG at h
 grind [Option.map_eq_some_iff,PRel,qR,tm]
def kD(β:aQ)(G:Sp→Nat→Nat)(w:World)(M:MSet)(ρ:aV→T)(e:Operand→Value):Prop:= ∀x y,eV x=some y→aq β G w M (ρ y) (e x)
def XM{st:St}{a:Act}{w:World}{β:aQ}{M:MSet}{n:Nat}(h:jk st a w β M n):kD β st.gens w M st.rho a.eval:=by
 intro x y Iv
 cases x with
 |tmp t=>simp[eV]at Iv;subst Iv;exact h.slot t
 |const v=>
  simp only[eV,Option.map_eq_some_iff]at Iv
  obtain⟨t,h1,rfl⟩:=Iv
  exact PRel.toV _ _ _ _ (ma h1)
 |global g=>simp[eV]at Iv
 |func f=>grind [eV,St.rho,Act.eval,aq,av]
def eo(P:Program)(B:eZ)(st:St)(a:Act)(w:World)(β:aQ)(M:MSet)(o:Oper)(v:T)(ups:List Up):Prop:=
 ∃nx cv w' r M',(execOp a.eval o).run P w= .ok nx w'∧(nx= .value cv∨(nx= .skip∧cv=undef))∧bh B (st.ups ups) w' r M'∧Tr st w β M (st.ups ups) w' r M'∧w.heap.size≤w'.heap.size∧aq r (st.ups ups).gens w' M' v cv
section
variable{P:Program}{B:eZ}{st:St}{a:Act}{w:World}{β:aQ}{M:MSet}{o:Oper}{v:T}{ups:List Up}
theorem aY(h:bh B st w β M){cv:Value}(hr:(execOp a.eval o).run P w= .ok (.value cv) w)(r:aq β st.gens w M v cv):eo P B st a w β M o v []:=
 ⟨_,cv,w,β,M,hr,.inl rfl,h,Tr.refl _ _ _ _,Nat.le_refl _,r⟩
variable(dS:kD β st.gens w M st.rho a.eval)(h:bh B st w β M)
include dS h
theorem akX{x:Operand}{y:aV}(ho:o.op= .move x∨o.op= .assign x)(hx:eV x=some y):eo P B st a w β M o (st.rho y) []:=
 aY h (cv:=a.eval x) (by rcases ho with ho|ho <;> simp[execOp,ho]) (dS x y hx)
theorem ael{c x y:Operand}{r D F:aV}(I:o.op= .pick c x y)(h1:eV c=some r)(h2:eV x=some D)(h3:eV y=some F){H:Bool}(J:st.rho r= .b H):
  eo P B st a w β M o (st.rho (if H then D else F)) []:=by
 have hc:=dS c r h1
 rw[J]at hc;simp only[aq]at hc
 cases H
 ·exact aY h (cv:=a.eval y) (by simp[execOp,I,hc,asBool]) (dS y F h3)
 ·exact aY h (cv:=a.eval x) (by simp[execOp,I,hc,asBool]) (dS x D h2)
theorem anr{d nx:Nat}{x:Operand}{y:aV}(F:o.op= .nilCheck x)(hx:eV x=some y){v:T}(D:(bB d st.rho (.nck y)).run st.get nx=some (.val v ups)):eo P B st a w β M o v ups:=by
 have r:=dS x y hx
 simp only[bB]at D
 split at D <;> simp[Q.run]at D <;> obtain⟨rfl,rfl⟩:=D <;> rename_i e
 ·rw[e]at r
  refine aY h (cv:=a.eval x) ?_ r
  simp only[aq,PRel]at r
  obtain⟨H,off,h1,_⟩:=r
  simp[execOp,F,h1]
 ·rw[e]at r
  refine aY h (cv:=a.eval x) ?_ r
  simp only[aq]at r
  simp[execOp,F,r.2]
 ·rw[e]at r
  refine aY h (cv:=a.eval x) ?_ r
  simp only[aq]at r
  obtain⟨I,J,h1,_⟩:=r
  simp[execOp,F,h1]
end
theorem wr_eq(k:IntKind)(n:Int):wr k n=k.wrap n:=by
 unfold wr
 split
 ·rename_i h
  cases k <;> simp only[lo,hi]at h <;> simp[IntKind.wrap,IntKind.bits,IntKind.signed] <;> omega
 ·rfl
theorem bytesN_toList(x:ByteArray):bytesN x=x.toList.map UInt8.toNat:=by rw[ByteArray.toList_eq];rfl
theorem fZ: ∀(a b:List UInt8),(a.map UInt8.toNat==b.map UInt8.toNat)=(a==b)
 | [],[]=>rfl
 | [],_::_=>rfl
 |_::_,[]=>rfl
 |x::xs,y::r=>by
  simp only[List.map_cons,List.cons_beq_cons,fZ xs r]
  congr 1
  rw[Bool.eq_iff_iff];simp[UInt8.toNat_inj]
theorem less_map: ∀(a b:List UInt8),lessN (a.map UInt8.toNat) (b.map UInt8.toNat)=Op.bytesLess a b
 | [],[]=>rfl
 | [],_::_=>rfl
 |_::_,[]=>rfl
 |x::xs,y::r=>by
  simp only[List.map_cons,lessN,Op.bytesLess,less_map xs r]
  have h1:decide (x.toNat<y.toNat)=decide (x<y):=by rw[Bool.eq_iff_iff];simp[UInt8.lt_iff_toNat_lt]
  have h2:(x.toNat==y.toNat)=(x==y):=by rw[Bool.eq_iff_iff];simp[UInt8.toNat_inj]
  rw[h1,h2]
theorem fM(x:ByteArray):(bytesN x).length=x.size:=by
 unfold bytesN;rw[List.length_map,Array.length_toList];rfl
def DS(x y:ByteArray):bytesN (x++y)=bytesN x++bytesN y:=by simp[bytesN,ByteArray.data_append]
section
variable{P:Program}{B:eZ}{st:St}{a:Act}{w:World}{β:aQ}{M:MSet}{o:Oper}{v:T}{ups:List Up}
theorem aq.int{k:IntKind}{n:Int}{cv:Value}{G:Sp→Nat→Nat}(h:aq β G w M (.i k n) cv):cv= .int k n:=by grind [aq]
def aq.str{l:List Nat}{cv:Value}{G:Sp→Nat→Nat}(h:aq β G w M (.s l) cv): ∃r,cv= .string r∧bytesN r=l:=by grind [aq]
theorem aq.bool{x:Bool}{cv:Value}{G:Sp→Nat→Nat}(h:aq β G w M (.b x) cv):cv= .bool x:=by grind [aq]
def aem{op:BinOp}{k:IntKind}{x y:Int}{t:TypeId}{r:T}(h:mI op k x y=some r)(hs:op≠ .shl∧op≠ .shr): ∃cv,(binOp op t (.int k x) (.int k y)).run P w= .ok cv w∧ ∀G,aq β G w M r cv:=by
 cases op <;> simp only[mI,Option.some.injEq]at h <;> try (subst h)
 all_goals first
  |exact absurd rfl hs.1
  |exact absurd rfl hs.2
  |skip
 case quo=>
  split at h
  ·cases h
  ·rename_i D
   simp at h;subst h
   exact⟨_,by simp[binOp,Op.intDiv,D];rfl,fun G=>by simp[aq,wr_eq]⟩
 case rem=>
  split at h
  ·cases h
  ·rename_i D
   simp at h;subst h
   exact⟨_,by simp[binOp,Op.intDiv,D];rfl,fun G=>by simp[aq]⟩
 all_goals first
  |exact⟨_,by simp[binOp,Op.intArith,Op.intBits,Op.intCmp];rfl,fun G=>by simp[aq,wr_eq]⟩
  |cases h
def E0{op:BinOp}{k k':IntKind}{x y:Int}{t:TypeId}{r:T}(h:BC op k x y=some r): ∃cv,(binOp op t (.int k x) (.int k' y)).run P w= .ok cv w∧ ∀G,aq β G w M r cv:=by
 unfold BC at h
 split at h
 ·cases h
 ·rename_i D
  cases op <;> simp at h <;> subst h
  ·exact⟨_,by simp[binOp,Op.shift,D];rfl,fun G=>by simp[aq]⟩
  ·exact⟨_,by simp[binOp,Op.shift,D];rfl,fun G=>by simp[aq]⟩
def aen{op:BinOp}{x y:ByteArray}{t:TypeId}{r:T}(h:MM op (bytesN x) (bytesN y)=some r): ∃cv,(binOp op t (.string x) (.string y)).run P w= .ok cv w∧ ∀G,aq β G w M r cv:=by
 have e1:(bytesN x==bytesN y)=(x.toList==y.toList):=by rw[bytesN_toList,bytesN_toList,fZ]
 have e2:lessN (bytesN x) (bytesN y)=Op.bytesLess x.toList y.toList:=by rw[bytesN_toList,bytesN_toList,less_map]
 have e3:(bytesN x != bytesN y)= !(x.toList==y.toList):=by rw[bne,e1]
 cases op <;> simp only[MM]at h <;> try (cases h;done)
 case add=>
  split at h
  ·rename_i D
   simp at h;subst h
   rw[fM,fM]at D
   have: ¬(((x.size+y.size:Nat):Int)>IntKind.i64.max):=by simp[IntKind.max,IntKind.signed,IntKind.bits];omega
   exact⟨.string (x++y),by simp only[binOp,Op.stringOp,this,if_false];rfl,fun G=>by simp only[aq];exact⟨_,rfl,DS x y⟩⟩
  ·cases h
 all_goals
  simp only[Option.some.injEq]at h
  subst h
  refine⟨_,by simp only[binOp,Op.stringOp];rfl,fun G=> ?_⟩
  simp only[aq,e1,e2,e3]
variable(dS:kD β st.gens w M st.rho a.eval)(h:bh B st w β M)
include dS h
theorem ans{op:BinOp}{t V:TypeId}{x y:Operand}{H I:aV}(J:o.op= .binOp op t x y V)(hx:eV x=some H)(W:eV y=some I)(r:Ev.bin op (st.rho H) (st.rho I)=some v):eo P B st a w β M o v []:=by
 have K:=dS x H hx
 have N:=dS y I W
 generalize st.rho H=tx at*
 generalize st.rho I=ty at*
 have MN: ∀k k' m n,(eqGuard op t x y (.int k m) (.int k' n)).run P w= .ok () w:=by intro k k' m n;cases op <;> simp[eqGuard]
 have O: ∀m n,(eqGuard op t x y (.string m) (.string n)).run P w= .ok () w:=by intro m n;cases op <;> simp[eqGuard]
 unfold Ev.bin at r
 split at r
 ·rename_i X a1 U Y
  have e1:=K.int;have e2:=N.int
  obtain⟨cv,D,F⟩:=E0 (P:=P) (w:=w) (β:=β) (M:=M) (t:=t) (k':=U) r
  exact aY h (cv:=cv) (by simp[execOp,J,e1,e2,MN,D]) (F _)
 ·rename_i X a1 U Y
  have e1:=K.int;have e2:=N.int
  obtain⟨cv,D,F⟩:=E0 (P:=P) (w:=w) (β:=β) (M:=M) (t:=t) (k':=U) r
  exact aY h (cv:=cv) (by simp[execOp,J,e1,e2,MN,D]) (F _)
 ·rename_i Z Iw
  split at r
  ·rename_i hk
   subst hk
   have e1:=K.int;have e2:=N.int
   obtain⟨cv,D,F⟩:=aem (P:=P) (w:=w) (β:=β) (M:=M) (t:=t) r ⟨fun e=>Z e,fun e=>Iw e⟩
   exact aY h (cv:=cv) (by simp[execOp,J,e1,e2,MN,D]) (F _)
  ·cases r
 ·obtain⟨bx,e1,rfl⟩:=K.str
  obtain⟨bY,e2,rfl⟩:=N.str
  obtain⟨cv,D,F⟩:=aen (P:=P) (w:=w) (β:=β) (M:=M) (t:=t) r
  exact aY h (cv:=cv) (by simp[execOp,J,e1,e2,O,D]) (F _)
 ·cases r
theorem azL{op:UnOp}{t:TypeId}{x:Operand}{D:aV}(F:o.op= .unOp op t x)(hx:eV x=some D)(r:Ev.un op (st.rho D)=some v):eo P B st a w β M o v []:=by
 have H:=dS x D hx
 generalize st.rho D=tx at*
 unfold Ev.un at r
 split at r
 ·simp at r;subst r
  exact aY h (cv:=_) (by simp[execOp,F,H.int,Op.unary,Op.intArith];rfl) (by simp[aq,wr_eq])
 ·simp at r;subst r
  exact aY h (cv:=_) (by simp[execOp,F,H.bool,Op.unary];rfl) (by simp only[aq])
 ·rename_i k n
  simp only[mI,Option.some.injEq]at r;subst r
  exact aY h (cv:= .int k (k.wrap (BitVec.ofInt k.bits (if k.signed then-1 else k.max) ^^^ BitVec.ofInt k.bits n).toNat)) (by simp only[execOp,F,H.int,Op.unary,Op.intBits];rfl) (by simp only[aq])
 ·cases r
theorem anu{s t:TypeId}{k:IntKind}{x:Operand}{r:aV}(F:o.op= .convert s t x)(hx:eV x=some r)(hs: ∃k',P.underlying s=some (.int k'))(H:P.underlying t=some (.int k)){k':IntKind}{n:Int}(I:st.rho r= .i k' n):
  eo P B st a w β M o (.i k (wr k n)) []:=by
 have D:=dS x r hx
 rw[I]at D
 obtain⟨ks,hs⟩:=hs
 exact aY h (cv:= .int k (k.wrap n)) (by simp[execOp,F,D.int,convert,run_underlying hs,run_underlying H,Conv.intToInt]) (by simp only[aq,wr_eq])
omit h in
theorem sk: ∀{xs:List Operand} {r:List aV},vh xs=some r→av β st.gens w M (r.map st.rho) (xs.map a.eval)
 | [],r,h=>by grind [vh,av]
 |x::xs,r,h=>by
  simp only[vh]at h
  split at h
  ·rename_i y D h1 h2
   simp at h;subst h
   simp only[List.map_cons,av]
   exact⟨_,_,rfl,dS x y h1,sk h2⟩
  ·cases h
theorem aeo{f:FuncId}{first r:Array Operand}{D cs:List aV}(F:o.op= .makeFunc (.func f) first r)(h1:vh first.toList=some D)(h2:vh r.toList=some cs):
  eo P B st a w β M o (.fn f (D.map st.rho) (cs.map st.rho)) []:=
 aY h (cv:= .func (.func f) (first.map a.eval) (r.map a.eval)) (by simp[execOp,F,Instr.makeFunc]) (by
  simp only[aq]
  exact⟨_,_,rfl,by simpa using sk dS h1,by simpa using sk dS h2⟩)
theorem anv{x:Operand}{r:aV}{j:Nat}(J:o.op= .extract x j)(hx:eV x=some r){I:List T}(K:st.rho r= .tup I)(N:I[j]? =some v):eo P B st a w β M o v []:=by
 have D:=dS x r hx
 rw[K]at D
 simp only[aq]at D
 obtain⟨F,e,O⟩:=D
 obtain⟨cv,U,V⟩:=O.get N
 have H:F[j]? =some cv:=by simpa using U
 exact aY h (cv:=cv) (by simp[execOp,J,e,Instr.extract,H]) V
end
theorem gz{P:Program}{t:TypeId}{n:Nat}(h:eU P t=some n)(w:World):(sizeOf t).run P w= .ok n w:=by
 unfold eU at h
 cases hi:P.info? t with
 |none=>simp[hi]at h
 |some i=>simp[hi]at h;simp[sizeOf,typeInfo,hi,h]
theorem mb{P:Program}{t:TypeId}{D:Bool}(h:qx P t=some D)(w:World):(isAgg t).run P w= .ok D w:=by
 unfold qx at h
 cases r:P.underlying t with
 |none=>simp[r]at h
 |some d=>
  simp only[r,Option.map_some,Option.some.injEq]at h
  unfold isAgg
  simp only[Sem.run_bind,run_underlying r,Result.andThen_ok]
  cases d <;> simp at h <;> subst h <;> rfl
def JM{P:Program}{β:aQ}{G:Sp→Nat→Nat}{w:World}{M:MSet}{t:TypeId}{off n:Nat}{D:Bool}{cs:List T}{r:Array Value}{v:T}(H:eU P t=some n)(I:qx P t=some D)
  (F:av β G w M cs r.toList) (hs:cs.all single=true) (h:Ev.part cs off n D=some v): ∃cv,(Go.part t r off).run P w= .ok cv w∧aq β G w M v cv:=by
 unfold Ev.part at h
 unfold Go.part
 simp only[Sem.run_bind,mb I,Result.andThen_ok]
 cases D with
 |true=>
  simp only[if_true]at h ⊢
  split at h
  ·rename_i J
   simp at h;subst h
   refine⟨.agg (r.extract off (off+n)),by simp[gz H], ?_⟩
   simp only[aq]
   refine⟨_,rfl, ?_,iy hs _ _⟩
   have:=av.take n (av.drop off F)
   grind [Array.toList_extract,List.extract_eq_take_drop]
  ·cases h
 |false=>
  simp only[Bool.false_eq_true,if_false]at h ⊢
  obtain⟨cv,K,N⟩:=F.get h
  simp_all
theorem dW(b o n:Nat):(⟨b,o,none⟩:Addr).add n=⟨b,o+n,none⟩:=by grind [Addr.add]
theorem PCells.get{w:World}{M:MSet}{r:Nat}: ∀{off:Nat} {ts:List T},PCells w M r off ts→ ∀{j:Nat} {t:T},ts[j]? =some t→ ∃v,w.cell? ⟨r,off+j,none⟩=some v∧ ¬M r (off+j)∧PRel w M t v∧single t=true
 |off,[],h,j,t,D=>by simp at D
 |off,c::cs,h,j,t,D=>by
  simp only[PCells]at h
  obtain⟨h1,h2⟩:=h
  cases j with
  |zero=>grind
  |succ j=>
   simp at D
   obtain⟨v,e⟩:=PCells.get h2 D
   grind
theorem PCells.drop{w:World}{M:MSet}{r:Nat}: ∀{off:Nat} {ts:List T} (n:Nat),PCells w M r off ts→n≤ts.length→PCells w M r (off+n) (ts.drop n)
 |off,ts,0,h,_=>by simpa using h
 |off,[],n+1,h,D=>by simp at D
 |off,c::cs,n+1,h,D=>by
  simp only[PCells]at h
  have:=PCells.drop n h.2 (by simpa using D)
  grind
theorem PCells.take{w:World}{M:MSet}{r:Nat}: ∀{off:Nat} {ts:List T} (n:Nat),PCells w M r off ts→PCells w M r off (ts.take n)
 |off,ts,0,h=>by simp[PCells]
 |off,[],n+1,h=>by simp[PCells]
 |off,c::cs,n+1,h=>by
  simp only[PCells]at h
  simp only[List.take_succ_cons,PCells]
  exact⟨h.1,PCells.take n h.2⟩
theorem PCells.load{P:Program}{w:World}{M:MSet}{r:Nat}: ∀{off:Nat} {ts:List T},PCells w M r off ts→ ∃D:List Value,D.length=ts.length∧(∀j v,D[j]? =some v→w.cell? ⟨r,off+j,none⟩=some v)∧PList w M ts D∧ts.all single=true
 |off,[],h=>⟨[],rfl,by simp,by simp[PList],rfl⟩
 |off,c::cs,h=>by
  simp only[PCells]at h
  obtain⟨⟨v,h1,_,h3,h4⟩,h2⟩:=h
  obtain⟨D,e1,e2,e3,e4⟩:=PCells.load (P:=P) h2
  refine⟨v::D,by simp[e1],fun j u F=> ?_, ?_,by simp[h4,e4]⟩
  ·grind
  ·grind [PList]
def JN{P:Program}{β:aQ}{G:Sp→Nat→Nat}{w:World}{M:MSet}{t:TypeId}{n:Nat}{F:Bool}{r off o:Nat}{cs:List T}{D:List Value}{v:T}(K:eU P t=some n)(N:qx P t=some F)
  (hc: ∀j u,D[j]? =some u→w.cell? ⟨r,off+j,none⟩=some u) (H:av β G w M cs D) (hs:cs.all single=true) (h:Ev.part cs o n F=some v):
  ∃cv,(loadVar t ⟨r,off+o,none⟩).run P w= .ok cv w∧aq β G w M v cv:=by
 unfold Ev.part at h
 unfold loadVar
 simp only[Sem.run_bind,mb N,Result.andThen_ok]
 cases F with
 |true=>
  simp only[if_true]at h ⊢
  split at h
  ·rename_i O
   simp at h;subst h
   have J:=av.length _ _ H
   have U:((D.drop o).take n).length=n:=by simp;omega
   have:=run_loadCells_list (P:=P) w ⟨r,off+o,none⟩ ((D.drop o).take n) (fun j u I=>by
    rw[dW]
    rw[List.getElem?_take]at I
    split at I
    ·grind
    ·cases I)
   rw[U]at this
   refine⟨.agg ((D.drop o).take n).toArray,by simp[gz K,this], ?_⟩
   simp only[aq]
   exact⟨_,rfl,by simpa using av.take n (av.drop o H),iy hs _ _⟩
  ·cases h
 |false=>
  simp only[Bool.false_eq_true,if_false]at h ⊢
  obtain⟨cv,V,W⟩:=H.get h
  grind [Go.load,Sem.run]
section
variable{P:Program}{B:eZ}{st:St}{a:Act}{w:World}{β:aQ}{M:MSet}{o:Oper}{v:T}{ups:List Up}
variable(dS:kD β st.gens w M st.rho a.eval)(h:bh B st w β M)
include h
def JO{t:TypeId}{n nx:Nat}{I:Bool}{x:T}{cx:Value}(N:eU P t=some n)(O:qx P t=some I)(J:aq β st.gens w M x cx)(r:(Gm x n I).run st.get nx=some v):
  ∃U cv,cx= .pointer (some U)∧(loadVar t U).run P w= .ok cv w∧aq β st.gens w M v cv:=by
 unfold Gm at r
 split at r
 ·rename_i cs
  simp only[aq,PRel]at J
  obtain⟨Z,off,rfl,hc⟩:=J
  obtain⟨vs,_,e2,e3,e4⟩:=PCells.load (P:=P) hc
  cases D:Ev.part cs 0 n I with
  |none=>simp[D,Q.of,Q.run]at r
  |some v'=>
   simp[D,Q.of,Q.run]at r;subst r
   obtain⟨cv,V,W⟩:=JN (P:=P) (β:=β) (G:=st.gens) (M:=M) N O e2 (PList.toV _ _ _ _ e3) e4 D
   grind
 ·rename_i sp k g off
  simp only[Q.run]at r
  split at r
  ·rename_i X
   have Y:=h.obj sp k
   generalize he:st.get sp k=e at*
   obtain⟨K,ob⟩:=e
   dsimp only at X;subst X
   cases ob with
   |none=>simp[Q.run]at r
   |map _ _ _=>simp[Q.run]at r
   |cells cs wm bx=>
    dsimp only at r
    cases D:Ev.part cs off n I with
    |none=>simp[D,Q.of,Q.run]at r
    |some v'=>
     simp[D,Q.of,Q.run]at r;subst r
     unfold dV at Y
     obtain⟨c,el,fz,h1,h2,h3,h4,h5,h6,h7⟩:=Y
     dsimp only at h1 h2 h3 h5
     have SC:av β st.gens w M cs ((c.toList.drop (β sp k K).off).take cs.length):=by
      exact h5.toV
     simp only[aq]at J
     obtain⟨_,rfl⟩:=J
     have F: ∀j u,((c.toList.drop (β sp k K).off).take cs.length)[j]? =some u→w.cell? ⟨(β sp k K).blk,(β sp k K).off+j,none⟩=some u:=by
      intro j u H
      rw[List.getElem?_take]at H
      split at H
      ·rw[List.getElem?_drop]at H
       unfold World.cell?;rw[h1];simpa using H
      ·cases H
     obtain⟨cv,V,W⟩:=JN (P:=P) N O F SC h7.1 D
     exact⟨_,cv,rfl,V,W⟩
  ·simp[Q.run]at r
 ·simp[Q.run]at r
include dS
theorem azM{d nx:Nat}{t:TypeId}{x:Operand}{r:aV}{n:Nat}{F:Bool}(I:o.op= .load t x)(hx:eV x=some r)(J:eU P t=some n)(K:qx P t=some F)
  (D:(bB d st.rho (.ld r n F)).run st.get nx=some (.val v ups)):eo P B st a w β M o v ups:=by
 simp only[bB,Q.run_bind]at D
 cases H:(Gm (st.rho r) n F).run st.get nx with
 |none=>simp[H]at D
 |some U=>
  simp[H,Q.run]at D
  obtain⟨rfl,rfl⟩:=D
  obtain⟨V,cv,e,N,O⟩:=JO (P:=P) h J K (dS x r hx) H
  exact aY h (cv:=cv) (by simp[execOp,I,e,Instr.loadAt,Instr.sureAddr,N]) O
theorem azN{d nx:Nat}{s:TypeId}{x:Operand}{H:aV}{f n:Nat}{N:Array Field}{F:Field}(O:o.op= .fieldAddr s x f)(hx:eV x=some H)(hs:P.underlying s=some (.struct N))(U:N[f]? =some F)(V:eU P F.type=some n)(h0:n≠0)
  (D:(bB d st.rho (.fa H F.offset)).run st.get nx=some (.val v ups)):eo P B st a w β M o v ups:=by
 have I:=dS x H hx
 have J: ∀r off,a.eval x= .pointer (some ⟨r,off,none⟩)→(execOp a.eval o).run P w= .ok (.value (.pointer (some ⟨r,off+F.offset,none⟩))) w:=by
  intro r off e
  simp[execOp,O,e,Instr.fieldAt,run_underlying hs,U,Instr.sureAddr,fieldPlace,gz V,h0,dW]
 simp only[bB]at D
 split at D
 ·rename_i cs e
  split at D
  ·rename_i K
   simp[Q.run]at D;obtain⟨rfl,rfl⟩:=D
   rw[e]at I
   simp only[aq,PRel]at I
   obtain⟨r,off,e1,hc⟩:=I
   refine aY h (J r off e1) ?_
   simp only[aq,PRel]
   exact⟨r,_,rfl,PCells.drop _ hc K⟩
  ·simp[Q.run]at D
 ·grind [Q.run,aq,Nat.add_assoc,aY]
 ·simp[Q.run]at D
theorem anx{d nx:Nat}{s:TypeId}{x:Operand}{F:aV}{f n:Nat}{H:Bool}{K:Array Field}{D:Field}(N:o.op= .field s x f)(hx:eV x=some F)(hs:P.underlying s=some (.struct K))(O:K[f]? =some D)(U:eU P D.type=some n)(V:qx P D.type=some H)
  (r:(bB d st.rho (.fld F D.offset n H)).run st.get nx=some (.val v ups)):eo P B st a w β M o v ups:=by
 have I:=dS x F hx
 simp only[bB]at r
 split at r
 ·rename_i cs e
  rw[e]at I
  simp only[aq]at I
  obtain⟨W,e1,X,Y⟩:=I
  cases J:Ev.part cs D.offset n H with
  |none=>simp[J,Ev.val,Q.run]at r
  |some v'=>
   simp[J,Ev.val,Q.run]at r;obtain⟨rfl,rfl⟩:=r
   obtain⟨cv,Z,r2⟩:=JM (P:=P) U V X Y J
   exact aY h (cv:=cv) (by simp[execOp,N,e1,Instr.field,run_underlying hs,O,asAgg,Z]) r2
 ·simp[Q.run]at r
theorem anz{d nx:Nat}{t e:TypeId}{x j:Operand}{D F:aV}{len n:Nat}{H:Bool}(O:o.op= .index t x j)(hx:eV x=some D)(U:eV j=some F)(V:P.underlying t=some (.array len e))(K:eU P e=some n)(W:qx P e=some H)
  (r:(bB d st.rho (.ixA D F len n H)).run st.get nx=some (.val v ups)):eo P B st a w β M o v ups:=by
 have I:=dS x D hx
 have N:=dS j F U
 simp only[bB]at r
 split at r
 ·rename_i jn cs e1 e2
  rw[e2]at I
  simp only[aq]at I
  obtain⟨X,e3,Y,Z⟩:=I
  split at r
  ·rename_i hlt
   cases J:Ev.part cs (jn*n) n H with
   |none=>simp[J,Ev.val,Q.run]at r
   |some v'=>
    simp[J,Ev.val,Q.run]at r;obtain⟨rfl,rfl⟩:=r
    unfold asNat at e1
    split at e1
    ·rename_i k m em
     split at e1
     ·rename_i hm
      simp at e1;subst e1
      rw[em]at N
      have ej:=N.int
      obtain⟨cv,r1,r2⟩:=JM (P:=P) K W Y Z J
      have:0≤m∧m<(len:Int):=zV
      exact aY h (cv:=cv) (by simp[execOp,O,e3,ej,Instr.index,run_underlying V,asIntOf,this,gz K,r1]) r2
     ·cases e1
    ·cases e1
  ·simp[Q.run]at r
 ·simp[Q.run]at r
omit h dS in
theorem iU{t:T}{n:Nat}(e:asNat t=some n): ∃k m,t= .i k m∧0≤m∧m.toNat=n:=by
 unfold asNat at e
 grind
theorem anA{d nx:Nat}{t:TypeId}{x j:Operand}{F H:aV}(N:o.op= .index t x j)(hx:eV x=some F)(O:eV j=some H)(U:P.underlying t=some .string)
  (D:(bB d st.rho (.ixS F H)).run st.get nx=some (.val v ups)):eo P B st a w β M o v ups:=by
 have J:=dS x F hx
 have K:=dS j H O
 simp only[bB]at D
 split at D
 ·rename_i jn Z e1 e2
  rw[e2]at J
  obtain⟨r,e3,rfl⟩:=J.str
  obtain⟨k,m,V,W,rfl⟩:=iU e1
  rw[V]at K
  have X:=K.int
  split at D
  ·rename_i c hc
   simp[Q.run]at D;obtain⟨rfl,rfl⟩:=D
   unfold bytesN at hc
   rw[List.getElem?_map,Option.map_eq_some_iff]at hc
   obtain⟨u,Y,rfl⟩:=hc
   have MO:r[m.toNat]? =some u:=by
    have:r.data[m.toNat]? =some u:=by simpa using Y
    have I:=(Array.getElem?_eq_some_iff.1 this).1
    have:r.data[m.toNat]=u:=(Array.getElem?_eq_some_iff.1 this).2
    show(if h:m.toNat<r.size then some r[m.toNat]else none)=some u
    have MP:m.toNat<r.size:=I
    rw[dif_pos MP];exact congrArg some this
   exact aY h (cv:= .int .u8 u.toNat) (by simp[execOp,N,e3,X,Instr.index,run_underlying U,asIntOf,W,MO]) (by simp only[aq])
  ·simp[Q.run]at D
 ·simp[Q.run]at D
theorem azO{d nx:Nat}{t e:TypeId}{x j:Operand}{H I:aV}{n:Nat}(O:o.op= .indexAddr t x j)(hx:eV x=some H)(U:eV j=some I)(V:P.underlying t=some (.slice e))(W:eU P e=some n)
  (D:(bB d st.rho (.ia H I n)).run st.get nx=some (.val v ups)):eo P B st a w β M o v ups:=by
 have J:=dS x H hx
 have N:=dS j I U
 have K: ∀(r off len F:Nat) k (m:Int),a.eval x= .slice (some ⟨r,off,none⟩) len F→a.eval j= .int k m→0≤m→m.toNat<len→(execOp a.eval o).run P w= .ok (.value (.pointer (some ⟨r,off+m.toNat*n,none⟩))) w:=by
  intro r off len F k m e1 e2 h1 h2
  have:0≤m∧m<(len:Int):=zV
  simp[execOp,O,e1,e2,Instr.indexAt,run_underlying V,asIntOf,this,gz W,dW]
 simp only[bB]at D
 split at D
 ·rename_i jn cs len ex e1 e2
  split at D
  ·rename_i hc
   simp[Q.run]at D;obtain⟨rfl,rfl⟩:=D
   simp at hc
   obtain⟨k,m,X,Y,rfl⟩:=iU e1
   rw[e2]at J;rw[X]at N
   simp only[aq,PRel]at J
   obtain⟨r,off,F,sp,e3,h1,h2,h5,h3⟩:=J
   obtain rfl:sp=none:=h5.resolve_right (by have:=hc.1;omega)
   refine aY h (K _ _ _ _ _ _ e3 N.int Y hc.1) ?_
   simp only[aq,PRel]
   exact⟨_,_,rfl,PCells.drop _ h3 (by have:=hc.2;rw[Nat.add_mul]at this;omega)⟩
  ·simp[Q.run]at D
 ·grind [Q.run,aq,Nat.add_assoc,iU,aY]
 ·simp[Q.run]at D
theorem anB{d nx:Nat}{t e:TypeId}{x j:Operand}{F H:aV}{len n:Nat}(N:o.op= .indexAddr t x j)(hx:eV x=some F)(O:eV j=some H)(U:P.underlying t=some (.array len e))(V:eU P e=some n)
  (D:(bB d st.rho (.iaA F H len n)).run st.get nx=some (.val v ups)):eo P B st a w β M o v ups:=by
 have I:=dS x F hx
 have K:=dS j H O
 have J: ∀(r off:Nat) k (m:Int),a.eval x= .pointer (some ⟨r,off,none⟩)→a.eval j= .int k m→0≤m→m.toNat<len→(execOp a.eval o).run P w= .ok (.value (.pointer (some ⟨r,off+m.toNat*n,none⟩))) w:=by
  intro r off k m e1 e2 h1 h2
  have:0≤m∧m<(len:Int):=zV
  simp[execOp,N,e1,e2,Instr.indexAt,run_underlying U,asIntOf,Instr.sureAddr,this,gz V,dW]
 simp only[bB]at D
 split at D
 ·rename_i jn cs e1 e2
  split at D
  ·rename_i hc
   simp[Q.run]at D;obtain⟨rfl,rfl⟩:=D
   simp at hc
   obtain⟨k,m,W,X,rfl⟩:=iU e1
   rw[e2]at I;rw[W]at K
   simp only[aq,PRel]at I
   obtain⟨r,off,e3,h3⟩:=I
   refine aY h (J _ _ _ _ e3 K.int X hc.1) ?_
   simp only[aq,PRel]
   exact⟨_,_,rfl,PCells.drop _ h3 (by have:=hc.2;rw[Nat.add_mul]at this;omega)⟩
  ·simp[Q.run]at D
 ·grind [Q.run,aq,Nat.add_assoc,iU,aY]
 ·simp[Q.run]at D
end
def BM(s:ByteArray)(l h:Nat):bytesN (s.extract l h)=((bytesN s).drop l).take (h-l):=by
 unfold bytesN
 simp_all
theorem ep{P:Program}{w:World}{k:IntKind}{m:Int}{y:Nat}{code:BoundsCode}(h1:0≤m)(h2:m.toNat≤y):(Instr.sliceBound (.int k m) y code).run P w= .ok m.toNat w:=by
 have:0≤m∧m≤(y:Int):=zV
 simp[Instr.sliceBound,asIntOf,this]
section
variable{P:Program}{B:eZ}{st:St}{a:Act}{w:World}{β:aQ}{M:MSet}{o:Oper}{v:T}{ups:List Up}
variable(dS:kD β st.gens w M st.rho a.eval)(h:bh B st w β M)
include dS in
def sq{x:Option Operand}{D:Option aV}{r n:Nat}(hx:qw x=some D)(e:dN st.rho r D=some n):
  (x=none∧D=none∧n=r)∨ ∃y k m,x=some y∧a.eval y= .int k m∧0≤m∧m.toNat=n:=by
 cases x with
 |none=>grind [qw,dN]
 |some y=>
  simp only[qw,Option.map_eq_some_iff]at hx
  obtain⟨F,H,rfl⟩:=hx
  simp only[dN]at e
  obtain⟨k,m,I,J,K⟩:=iU e
  have:=dS y F H
  rw[I]at this
  exact .inr ⟨y,k,m,rfl,this.int,J,K⟩
include dS in
def ql{lo hi:Option Operand}{D DT:Option aV}{isS:Bool}{len r l H:Nat}(h1:qw lo=some D)(h2:qw hi=some DT)(e1:dN st.rho 0 D=some l)(e2:dN st.rho len DT=some H)
  (I:l≤H) (hc:H≤len) (F:len≤r):(Instr.sliceBounds isS len r (lo.map a.eval) (hi.map a.eval) none).run P w= .ok (l,H,r) w:=by
 unfold Instr.sliceBounds
 rcases sq dS h1 e1 with⟨rfl,rfl,rfl⟩|⟨y,k,m,rfl,ey,hm,rfl⟩ <;> rcases sq dS h2 e2 with⟨rfl,rfl,rfl⟩|⟨y2,k2,m2,rfl,ey2,hm2,rfl⟩
 ·simp
 ·simp[ey2,ep hm2 (Nat.le_trans hc F)]
 ·simp[ey,ep hm I]
 ·simp[ey,ey2,ep hm2 (Nat.le_trans hc F),ep hm I]
include dS h
theorem anC{d nx:Nat}{t:TypeId}{x:Operand}{F:aV}{lo hi:Option Operand}{D DT:Option aV}(J:o.op= .slice t x lo hi none)(hx:eV x=some F)(h1:qw lo=some D)(h2:qw hi=some DT)(K:P.underlying t=some .string)
  (r:(bB d st.rho (.slS F D DT)).run st.get nx=some (.val v ups)):eo P B st a w β M o v ups:=by
 have H:=dS x F hx
 simp only[bB]at r
 split at r
 ·rename_i U e
  rw[e]at H
  obtain⟨s,N,rfl⟩:=H.str
  split at r
  ·rename_i l I e1 e2
   split at r
   ·rename_i hc
    simp at hc
    simp[Q.run]at r;obtain⟨rfl,rfl⟩:=r
    rw[fM]at e2 hc
    have O:=ql (P:=P) (w:=w) (isS:=false) dS h1 h2 e1 e2 hc.1 hc.2 (Nat.le_refl _)
    refine aY h (cv:= .string (s.extract l I)) ?_ (by simp only[aq];exact⟨_,rfl,BM s l I⟩)
    simp[execOp,J,N,Instr.sliceAt,run_underlying K,Instr.slice,O]
   ·simp[Q.run]at r
  ·simp[Q.run]at r
 ·simp[Q.run]at r
def anD{d nx:Nat}{t e:TypeId}{n:Nat}{x:Operand}{W:aV}{lo hi mx:Option Operand}{O DT X:Option aV}(ho:o.op= .slice t x lo hi mx)(hx:eV x=some W)(h1:qw lo=some O)(h2:qw hi=some DT)(h3:qw mx=some X)
  (ht:P.underlying t=some (.slice e)) (hn:eU P e=some n) (h0:n≠0) (hmx:mx.isSome=true→hi.isSome=true)
  (H:(bB d st.rho (.slV n W O DT X)).run st.get nx=some (.val v ups)):eo P B st a w β M o v ups:=by
 have I:=dS x W hx
 simp only[bB]at H
 cases D:lK (st.rho W)with
 |none=>grind [Q.run]
 |some len=>
  simp only[D]at H
  cases e1:dN st.rho 0 O with
  |none=>simp[e1,Q.run]at H
  |some l=>
   cases e2:dN st.rho len DT with
   |none=>grind [Q.run]
   |some N=>
    cases mx with
    |none=>
     simp[qw]at h3;subst h3
     simp only[e1,e2,Q.run_bind]at H
     have J: ∀(K:Option Addr) r,a.eval x= .slice K len r→l≤N→N≤len→len≤r→
       (execOp a.eval o).run P w= .ok (.value (.slice (if r=l then K else K.map (·.add (l*n))) (N-l) (r-l))) w:=by
      intro K r ex Mk UU hl3
      have hb:=ql (P:=P) (w:=w) (isS:=true) dS h1 h2 e1 e2 Mk UU hl3
      simp[execOp,ho,ex,Instr.sliceAt,run_underlying ht,Instr.slice,hb,gz hn]
     cases hs:(zp n (st.rho W) l N).run st.get nx with
     |none=>simp[hs]at H
     |some v'=>
      simp[hs,Q.run]at H;obtain⟨rfl,rfl⟩:=H
      unfold zp at hs
      split at hs
      ·grind [Q.run,lK,aq,aY]
      ·rename_i cs XN ex' ex
       rw[ex]at I D
       simp[lK]at D;subst D
       split at hs
       ·rename_i hc
        simp[Q.run]at hs;subst hs
        simp at hc
        obtain⟨⟨c1,c2⟩,c3⟩:=hc
        simp only[aq,PRel]at I
        obtain⟨F,off,r,sp,e3,p1,p2,p4,p3⟩:=I
        refine aY h (J _ _ e3 c1 c2 p1) ?_
        simp only[aq,PRel]
        by_cases BN:r=l
        ·rw[if_pos BN]
         have:N=l:=zV
         subst this
         refine⟨F,off,r-N,sp,by simp,by omega,fun U=>by omega,.inr zV, ?_⟩
         simp[PCells]
        ·rw[if_neg BN]
         obtain rfl:sp=none:=p4.resolve_right zV
         refine⟨F,off+l*n,r-l,none,by simp[dW],by omega,fun U=> ?_,.inl rfl, ?_⟩
         ·simp at U
          have:=p2 U.1
          omega
         ·refine PCells.take _ (PCells.drop _ p3 ?_)
          rw[c3];exact Nat.mul_le_mul_right n (Nat.le_trans c1 c2)
       ·simp[Q.run]at hs
      ·rename_i sp k g off XN sz ex
       rw[ex]at I D
       simp[lK]at D;subst D
       split at hs
       ·rename_i hc
        simp[Q.run]at hs;subst hs
        simp at hc
        obtain⟨⟨c1,c2⟩,rfl⟩:=hc
        simp only[aq]at I
        obtain⟨q1,r,e3,p1,p2⟩:=I
        refine aY h (J _ _ e3 c1 c2 p1) ?_
        by_cases Y:l=N
        ·subst Y
         rw[if_pos rfl]
         by_cases Z:sp= .S∧l=0∧off=0
         ·rw[if_pos Z]
          obtain⟨_,rfl,rfl⟩:=Z
          simp only[aq]
          refine⟨q1,r, ?_,Nat.zero_le _,p2⟩
          by_cases BN:r=0
          ·rw[if_pos BN];simp
          ·rw[if_neg BN];simp[dW]
         rw[if_neg Z]
         simp only[aq,PRel]
         by_cases BN:r=l
         ·rw[if_pos BN]
          exact⟨(β sp k g).blk,(β sp k g).off+off,r-l,none,by simp,by omega,(fun e=>by cases e),.inl rfl,by simp[PCells]⟩
         ·rw[if_neg BN]
          exact⟨(β sp k g).blk,(β sp k g).off+off+l*sz,r-l,none,by simp[dW],by omega,(fun e=>by cases e),.inl rfl,by simp[PCells]⟩
        ·rw[if_neg Y,if_neg zV]
         simp only[aq]
         refine⟨q1,r-l,by simp[dW,Nat.add_assoc],by omega, ?_⟩
         have:(r-l)*sz+l*sz=r*sz:=by rw[←Nat.add_mul];congr 1;omega
         omega
       ·simp[Q.run]at hs
      ·simp[Q.run]at hs
    |some m=>
     simp only[qw,Option.map_eq_some_iff]at h3
     obtain⟨m',hm',rfl⟩:=h3
     have vm:=dS m m' hm'
     have J: ∀(K:Option Addr) r,a.eval x= .slice K len r→ ∀k (z:Int),a.eval m= .int k z→z=0→l=0→N=0→
       (execOp a.eval o).run P w= .ok (.value (.slice K 0 0)) w:=by
      intro K r ex k z em Z xw hh0
      subst Z;subst xw;subst hh0
      have hb:(Instr.sliceBounds true len r (lo.map a.eval) (hi.map a.eval) (some (.int k 0))).run P w= .ok (0,0,0) w:=by
       unfold Instr.sliceBounds
       rcases sq dS h2 e2 with⟨rfl,rfl,hx0⟩|⟨y2,k2,m2,rfl,ey2,hm2,Ml⟩
       ·simp at hmx
       ·have b1:=ep (P:=P) (w:=w) (k:=k) (m:=0) (y:=r) (code:= .slice3Acap) zV yv
        have b2:=ep (P:=P) (w:=w) (k:=k2) (m:=m2) (y:=0) (code:= .slice3B) hm2 zV
        rcases sq dS h1 e1 with⟨rfl,rfl,_⟩|⟨y,k1,m1,rfl,ey,hm,hz1⟩
        ·simp_all
        ·have b3:=ep (P:=P) (w:=w) (k:=k1) (m:=m1) (y:=m2.toNat) (code:= .slice3C) hm zV
         simp_all
      cases K <;> simp[execOp,ho,ex,em,Instr.sliceAt,run_underlying ht,Instr.slice,hb,gz hn]
     simp only[e1,e2]at H
     cases em:asNat (st.rho m')with
     |none=>simp[em,Q.run]at H
     |some z=>
      obtain⟨km,zm,ez,hz1,Ml⟩:=iU em
      rw[ez]at vm
      have vm':=vm.int
      split at H
      ·grind [aq,lK,Q.run,aY]
      ·rename_i V hne
       rw[em]at V
       simp at V;subst V
       split at H
       ·rename_i hc
        simp at hc
        simp[Q.run]at H;obtain⟨rfl,rfl⟩:=H
        have: ∃F off r sp,a.eval x= .slice (some ⟨F,off,sp⟩) len r:=by
         generalize st.rho W=tx at*
         cases tx <;> simp[lK]at D
         case nilsl=>exact absurd rfl hne
         case sl cs XN ex=>
          subst D
          simp only[aq,PRel]at I
          obtain⟨F,off,r,sp,e3,_⟩:=I
          exact⟨F,off,r,sp,e3⟩
         case isl sp k g off XN sz=>
          subst D
          simp only[aq]at I
          obtain⟨_,r,e3,_⟩:=I
          exact⟨_,_,r,none,e3⟩
        obtain⟨F,off,r,sp,e3⟩:=this
        refine aY h (J _ _ e3 km zm vm' zV hc.1 hc.2) ?_
        simp only[aq,PRel]
        exact⟨F,off,0,sp,rfl,Nat.le_refl _,fun _=>rfl,.inr rfl,by simp[PCells]⟩
       ·simp[Q.run]at H
      ·simp[Q.run]at H
end
section
variable{P:Program}{B:eZ}{st:St}{a:Act}{w:World}{β:aQ}{M:MSet}{o:Oper}{v:T}{ups:List Up}
def MQ{D:Bool}{x y:T}{F:List T}{r:T}(h:il D x (y::F)=some r): ∃k n,x= .i k n:=by
 unfold il at h
 grind
theorem eb{c:Call}{b:Builtin}(r:o.op= .call c)(D:c.callee= .builtin b):
  (execOp a.eval o).run P w=(builtin b c.argTypes o.type (c.args.map fun| .const _=>true|_=>false) (c.args.map a.eval)).run P w:=by
 simp only[execOp,r,resolve,D,Sem.run_bind]
 rfl
theorem vI{args:Array Operand}{x:Operand}(h:args.toList= [x])(f:Operand→Value):args.map f= #[f x]:=by
 apply Array.ext';simp[h]
theorem aeq{args:Array Operand}{x y:Operand}(h:args.toList= [x,y])(f:Operand→Value):args.map f= #[f x,f y]:=by
 apply Array.ext';simp[h]
variable(dS:kD β st.gens w M st.rho a.eval)(h:bh B st w β M)
include dS h
theorem aer{d nx:Nat}{c:Call}{t:TypeId}{x:Operand}{D:aV}(H:o.op= .call c)(I:c.callee= .builtin .len)(J:c.argTypes[0]? =some t)(K:c.args.toList= [x])(N:P.underlying t=some .string)(hx:eV x=some D)
  (r:(bB d st.rho (.lenS D)).run st.get nx=some (.val v ups)):eo P B st a w β M o v ups:=by
 have F:=dS x D hx
 simp only[bB]at r
 split at r
 ·rename_i U e
  simp[Q.run]at r;obtain⟨rfl,rfl⟩:=r
  rw[e]at F
  obtain⟨s,O,rfl⟩:=F.str
  refine aY h (cv:= .int .i64 s.size) ?_ (by simp only[aq,fM])
  rw[eb H I,vI K]
  simp[builtin,Builtin.len_,J,O,run_underlying N,goInt]
 ·simp[Q.run]at r
theorem aes{d nx:Nat}{c:Call}{t e:TypeId}{x:Operand}{r:aV}(J:o.op= .call c)(K:c.callee= .builtin .len)(N:c.argTypes[0]? =some t)(O:c.args.toList= [x])(U:P.underlying t=some (.slice e))(hx:eV x=some r)
  (F:(bB d st.rho (.lenV r)).run st.get nx=some (.val v ups)):eo P B st a w β M o v ups:=by
 have W:=dS x r hx
 simp only[bB]at F
 cases H:lK (st.rho r)with
 |none=>simp[H,Ev.val,Q.run]at F
 |some n=>
  simp[H,Ev.val,Q.run]at F;obtain⟨rfl,rfl⟩:=F
  have: ∃I D,a.eval x= .slice I n D:=by
   generalize st.rho r=V at*
   cases V <;> simp[lK]at H
   case nilsl=>grind [aq]
   case sl cs XN ex=>grind [aq,PRel]
   grind [aq]
  obtain⟨I,D,e1⟩:=this
  refine aY h (cv:= .int .i64 n) ?_ (by simp only[aq])
  rw[eb J K,vI O]
  simp[builtin,Builtin.len_,N,e1,run_underlying U,goInt]
theorem aet{d nx:Nat}{c:Call}{t Y Z:TypeId}{x:Operand}{K:aV}(N:o.op= .call c)(O:c.callee= .builtin .len)(U:c.argTypes[0]? =some t)(V:c.args.toList= [x])(W:P.underlying t=some (.map Y Z))(hx:eV x=some K)
  (D:(bB d st.rho (.lenM K)).run st.get nx=some (.val v ups)):eo P B st a w β M o v ups:=by
 have H:=dS x K hx
 have J: ∀F I r,a.eval x= .map (some F)→w.heap[F]? =some (.map I r)→(execOp a.eval o).run P w= .ok (.value (.int .i64 I.size)) w:=by
  intro F I r e1 e2
  rw[eb N O,vI V]
  simp[builtin,Builtin.len_,U,e1,run_underlying W,goInt,getObj,Sem.run,e2]
 simp only[bB]at D
 split at D
 ·rename_i e
  simp[Q.run]at D;obtain⟨rfl,rfl⟩:=D
  rw[e]at H;simp only[aq]at H
  refine aY h (cv:= .int .i64 0) ?_ (by simp only[aq])
  rw[eb N O,vI V]
  simp[builtin,Builtin.len_,U,H,run_underlying W,goInt]
 ·rename_i ks vs e
  simp[Q.run]at D;obtain⟨rfl,rfl⟩:=D
  rw[e]at H;simp only[aq,PRel]at H
  obtain⟨F,I,r,e1,e2,_,_,e3,_⟩:=H
  refine aY h (J F I r e1 e2) ?_
  simp only[aq]
  have:=PList.length _ _ e3
  grind
 ·rename_i sp k g e
  simp only[Q.run]at D
  split at D
  ·rename_i X
   have Ab:=h.obj sp k
   generalize he:st.get sp k=en at*
   obtain⟨ge,ob⟩:=en
   dsimp only at X;subst X
   cases ob with
   |none=>simp[Q.run]at D
   |cells _ _ _=>simp[Q.run]at D
   |map ks vs f=>
    simp[Q.run]at D;obtain⟨rfl,rfl⟩:=D
    rw[e]at H;simp only[aq]at H
    unfold dV at Ab
    obtain⟨I,r,e2,_,e3,_⟩:=Ab
    refine aY h (J _ I r H.2 e2) ?_
    simp only[aq]
    have:=PList.length _ _ e3
    simp at this;rw[this]
  ·simp[Q.run]at D
 ·simp[Q.run]at D
omit dS in
theorem aeu{c:Call}{t e:TypeId}{n:Nat}{x:Operand}(r:o.op= .call c)(D:c.callee= .builtin .len)(F:c.argTypes[0]? =some t)(H:c.args.toList= [x])(I:P.underlying t=some (.array n e)):
  eo P B st a w β M o (.i .i64 n) []:=by
 refine aY h (cv:= .int .i64 n) ?_ (by simp only[aq])
 rw[eb r D,vI H]
 simp[builtin,Builtin.len_,F,run_underlying I,goInt]
omit dS h in
theorem Pu{k:IntKind}: ∀(D:List T) (H:List Value) (x:Int) (r:T),av β st.gens w M D H→il false (.i k x) D=some r→ ∃n,r= .i k n∧(H.foldlM Builtin.min2 (.int k x)).run P w= .ok (.int k n) w
 | [],H,x,r,I,F=>by
   simp_all[av,il]
 |t::ts,H,x,r,I,F=>by
  simp only[av]at I
  obtain⟨u,us,rfl,h1,h2⟩:=I
  cases t <;> simp only[il]at F <;> try (cases F;done)
  rename_i k' y
  split at F
  ·rename_i hk;subst hk
   have:=h1.int;subst this
   obtain⟨n,e1,e2⟩:=Pu ts us _ r h2 F
   grind [Sem.run_bind,Builtin.min2,Sem.run_pure,Result.andThen_ok]
  ·cases F
omit dS h in
theorem Pv{k:IntKind}: ∀(D:List T) (H:List Value) (x:Int) (r:T),av β st.gens w M D H→il true (.i k x) D=some r→ ∃n,r= .i k n∧(H.foldlM Builtin.max2 (.int k x)).run P w= .ok (.int k n) w
 | [],H,x,r,I,F=>by
   simp_all[av,il]
 |t::ts,H,x,r,I,F=>by
  simp only[av]at I
  obtain⟨u,us,rfl,h1,h2⟩:=I
  cases t <;> simp only[il]at F <;> try (cases F;done)
  rename_i k' y
  split at F
  ·rename_i hk;subst hk
   have:=h1.int;subst this
   obtain⟨n,e1,e2⟩:=Pv ts us _ r h2 F
   grind [Sem.run_bind,Builtin.max2,Sem.run_pure,Result.andThen_ok]
  ·cases F
theorem akZ{d nx:Nat}{D:Bool}{c:Call}{as:List aV}(J:o.op= .call c)(K:c.callee= .builtin (if D then .max else .min))(V:vh c.args.toList=some as)
  (I:(bB d st.rho (.mm D as)).run st.get nx=some (.val v ups)):eo P B st a w β M o v ups:=by
 have N:=sk dS V
 simp only[bB]at I
 split at I
 ·rename_i x F e
  cases H:il D x F with
  |none=>simp[H,Ev.val,Q.run]at I
  |some r=>
   simp[H,Ev.val,Q.run]at I;obtain⟨rfl,rfl⟩:=I
   rw[e]at N
   simp only[av]at N
   obtain⟨u,us,e2,h1,h2⟩:=N
   cases F with
   |nil=>
    simp[il]at H;subst H
    simp only[av]at h2;subst h2
    refine aY h (cv:=u) ?_ h1
    rw[eb J K]
    cases D <;> simp[builtin,Builtin.min_,Builtin.max_,e2]
   |cons y O=>
    obtain⟨k,U,rfl⟩:=MQ H
    have:=h1.int;subst this
    cases D with
    |false=>
     obtain⟨n,e3,e4⟩:=Pu (P:=P) (y::O) us U r h2 H
     subst e3
     refine aY h (cv:= .int k n) ?_ (by simp only[aq])
     rw[eb J K]
     simp[builtin,Builtin.min_,e2,e4]
    |true=>
     obtain⟨n,e3,e4⟩:=Pv (P:=P) (y::O) us U r h2 H
     subst e3
     refine aY h (cv:= .int k n) ?_ (by simp only[aq])
     rw[eb J K]
     simp[builtin,Builtin.max_,e2,e4]
 ·simp[Q.run]at I
end
def pq{P:Program}{t:TypeId}{k:CK}(h:sU P t=some k):match k with| .int=> ∃r,P.underlying t=some (.int r)| .str=>P.underlying t=some .string| .bool=>P.underlying t=some .bool:=by
 grind [sU]
theorem tV{P:Program}{β:aQ}{G:Sp→Nat→Nat}{w:World}{M:MSet}{t:TypeId}{k:CK}{x y:T}{cx H:Value}{r:Bool}(d:Nat)(hk:sU P t=some k)(hx:aq β G w M x cx)(F:aq β G w M y H)(h:eL k x y=some r):
  (Op.equalIn (d+1) t cx H).run P w= .ok r w:=by
 have D:=pq hk
 unfold eL at h
 split at h
 ·simp at h;subst h
  rw[hx.bool,F.bool]
  exact run_equalIn_bool' w d t _ _ D
 ·split at h
  ·rename_i e;subst e
   simp at h;subst h
   obtain⟨I,D⟩:=D
   rw[hx.int,F.int]
   exact run_equalIn_int w d t _ I _ _ D
  ·cases h
 ·simp at h;subst h
  obtain⟨bx,e1,rfl⟩:=hx.str
  obtain⟨J,e2,rfl⟩:=F.str
  rw[e1,e2,run_equalIn_string w d t _ _ D,bytesN_toList,bytesN_toList,fZ]
 ·cases h
theorem vJ{P:Program}{β:aQ}{G:Sp→Nat→Nat}{w:World}{M:MSet}(d:Nat){I J:Array Value}{xs F:List T}(hx:av β G w M xs I.toList)(V:av β G w M F J.toList):
  ∀(H:List Field) (i:Nat) (ks:List CK) (r:Bool),ji P i H=some ks→cg ks (xs.drop i) (F.drop i)=some r→(Op.eqFields (d+1) I J H).run P w= .ok r w
 | [],i,ks,r,hk,D=>by
   simp[ji]at hk;subst hk
   generalize xs.drop i=W at D
   generalize F.drop i=yd at D
   cases W <;> cases yd <;> simp[cg]at D
   subst D;simp[Op.eqFields]
 |f::H,i,ks,r,hk,D=>by
  simp only[ji]at hk
  split at hk
  ·rename_i hc
   simp at hc
   obtain⟨⟨c1,X⟩,c3⟩:=hc
   split at hk
   ·rename_i k K h1 h2
    simp at hk;subst hk
    cases Mm:xs.drop i with
    |nil=>grind [cg]
    |cons x Y=>
     cases MR:F.drop i with
     |nil=>grind [cg]
     |cons y Z=>
      rw[Mm,MR]at D
      simp only[cg]at D
      have gx:xs[i]? =some x:=by have:=congrArg (·[0]?) Mm;simpa using this
      have gy:F[i]? =some y:=by have:=congrArg (·[0]?) MR;simpa using this
      obtain⟨cx,ax,vx⟩:=hx.get gx
      obtain⟨cy,ay,vy⟩:=V.get gy
      have agg:qx P f.type=some false:=by
       have:=pq h1
       grind [qx]
      have iK:(Go.part f.type I f.offset).run P w= .ok cx w:=by
       simp_all[Go.part,Sem.run_bind,mb,Result.andThen_ok]
      have N:(Go.part f.type J f.offset).run P w= .ok cy w:=by
       simp_all[Go.part,Sem.run_bind,mb,Result.andThen_ok]
      have O:xs.drop (i+1)=Y:=by rw[←List.drop_drop,Mm];rfl
      have U:F.drop (i+1)=Z:=by rw[←List.drop_drop,MR];rfl
      simp only[Op.eqFields,if_pos (show f.name≠ "_" from X),Sem.run_bind,iK,N,Result.andThen_ok]
      cases hc:eL k x y with
      |none=>simp[hc]at D
      |some b=>
       rw[tV d h1 vx vy hc]
       cases b with
       |false=>simp[hc]at D;subst D;simp
       |true=>
        simp only[hc]at D
        simp only[Result.andThen_ok,Bool.not_true,Bool.false_eq_true,if_false]
        exact vJ d hx V H (i+1) K r h2 (by rw[O,U];exact D)
   ·cases hk
  ·cases hk
theorem zu{P:Program}{β:aQ}{G:Sp→Nat→Nat}{w:World}{M:MSet}(d:Nat){e:TypeId}{k:CK}(hk:sU P e=some k){I J:Array Value}{xs F:List T}(hx:av β G w M xs I.toList)(U:av β G w M F J.toList):
  ∀(n i:Nat) (r:Bool),cg (List.replicate n k) (xs.drop i) (F.drop i)=some r→(Op.eqItems (d+1) e 1 I J (List.range' i n)).run P w= .ok r w
 |0,i,r,D=>by
  generalize xs.drop i=W at D
  generalize F.drop i=yd at D
  cases W <;> cases yd <;> simp[cg]at D
  subst D;simp[Op.eqItems]
 |n+1,i,r,D=>by
  rw[List.replicate_succ]at D
  cases Mm:xs.drop i with
  |nil=>rw[Mm]at D;cases F.drop i <;> simp[cg]at D
  |cons x X=>
   cases MR:F.drop i with
   |nil=>rw[Mm,MR]at D;simp[cg]at D
   |cons y Y=>
    rw[Mm,MR]at D
    simp only[cg]at D
    have Z:xs[i]? =some x:=by have:=congrArg (·[0]?) Mm;simpa using this
    have gy:F[i]? =some y:=by have:=congrArg (·[0]?) MR;simpa using this
    obtain⟨cx,ax,vx⟩:=hx.get Z
    obtain⟨V,ay,vy⟩:=U.get gy
    have H:qx P e=some false:=by
     have:=pq hk
     unfold qx
     cases k
     ·obtain⟨ik,e⟩:=this;simp[e]
     ·simp[this]
     ·simp[this]
    have iK:(Go.part e I (i*1)).run P w= .ok cx w:=by
     unfold Go.part;simp only[Sem.run_bind,mb H,Result.andThen_ok]
     have:I[i]? =some cx:=by simpa using ax
     simp[this]
    have K:(Go.part e J (i*1)).run P w= .ok V w:=by
     unfold Go.part;simp only[Sem.run_bind,mb H,Result.andThen_ok]
     have:J[i]? =some V:=by simpa using ay
     simp[this]
    have N:xs.drop (i+1)=X:=by rw[←List.drop_drop,Mm];rfl
    have O:F.drop (i+1)=Y:=by rw[←List.drop_drop,MR];rfl
    simp only[List.range'_succ,Op.eqItems,Sem.run_bind,iK,K,Result.andThen_ok]
    cases hc:eL k x y with
    |none=>simp[hc]at D
    |some b=>
     rw[tV d hk vx vy hc]
     cases b with
     |false=>simp[hc]at D;subst D;simp
     |true=>
      simp only[hc]at D
      simp only[Result.andThen_ok,Bool.not_true,Bool.false_eq_true,if_false]
      exact zu d hk hx U n (i+1) r (by rw[N,O];exact D)
theorem mc{P:Program}{t:TypeId}{k:EK}(h:BH P t=some k):match k with
  | .one c=>sU P t=some c
  | .flat ks=>P.eqGuardType P.depth t=false∧((∃r,P.underlying t=some (.struct r)∧P.stoodInHeld t=false∧ji P 0 r.toList=some ks)∨ ∃n e c,P.underlying t=some (.array n e)∧P.cellsOf e=1∧sU P e=some c∧ks=List.replicate n c)
  | .sl=> ∃e,P.underlying t=some (.slice e)
  | .ptr=> ∃e,P.underlying t=some (.pointer e)
  | .map=> ∃a b,P.underlying t=some (.map a b):=by
 unfold BH at h
 split at h
 ·simp at h;subst h;rename_i e;simp[sU,e]
 ·simp at h;subst h;rename_i e;simp[sU,e]
 ·simp at h;subst h;rename_i e;simp[sU,e]
 ·simp at h;subst h;rename_i x e;exact⟨x,e⟩
 ·simp at h;subst h;rename_i x e;exact⟨x,e⟩
 ·simp at h;subst h;rename_i x y e;exact⟨x,y,e⟩
 ·rename_i r e
  split at h
  ·rename_i hc
   simp only[Option.map_eq_some_iff]at h
   obtain⟨ks,h1,rfl⟩:=h
   simp at hc
   exact⟨hc.1,.inl ⟨r,e,hc.2,h1⟩⟩
  ·cases h
 ·rename_i n e D
  split at h
  ·rename_i hc
   simp only[Option.map_eq_some_iff]at h
   obtain⟨c,h1,rfl⟩:=h
   simp at hc
   exact⟨hc.1,.inr ⟨n,e,c,D,hc.2,h1,rfl⟩⟩
  ·cases h
 ·cases h
def Ac{P:Program}(w:World)(d:Nat)(t e:TypeId)(p:Option Addr)(h:P.underlying t=some (.pointer e)):(Op.equalIn (d+1) t (.pointer p) (.pointer none)).run P w= .ok p.isNone w:=by
 cases p <;> simp[Op.equalIn,run_underlying h]
theorem nJ{P:Program}(w:World)(t e:TypeId)(p:Option Addr)(h:P.underlying t=some (.pointer e)):(Op.equal t (.pointer p) (.pointer none)).run P w= .ok p.isNone w:=Ac w 9999 t e p h
def Pw{P:Program}{β:aQ}{G:Sp→Nat→Nat}{w:World}{M:MSet}{t:TypeId}{k:EK}{x y:T}{cx O:Value}{r:Bool}(hk:BH P t=some k)(hx:aq β G w M x cx)(F:aq β G w M y O)(h:sS k x y=some r):
  (Op.equal t cx O).run P w= .ok r w:=by
 have D:=mc hk
 unfold sS at h
 split at h
 ·exact tV 9999 D hx F h
 ·rename_i ks xs ys
  simp only[aq]at hx F
  obtain⟨U,rfl,V,_⟩:=hx
  obtain⟨W,rfl,X,_⟩:=F
  obtain⟨u2,⟨Z,J,N,K⟩|⟨n,e,c,J,N,K,rfl⟩⟩:=D
  ·have Y:P.fieldsOf t=Z:=by simp[Program.fieldsOf,J]
   have:=run_equalIn_struct w 9999 t U W (by rw[Y];exact J) N
   rw[Y]at this
   exact this.trans (vJ 9998 V X _ 0 ks r K (by simpa using h))
  ·obtain⟨inf,hi⟩: ∃i,P.info? e=some i:=by
    cases H:P.underlying e with
    |none=>simp[sU,H]at K
    |some _=>exact info_of_underlying H
   have:=run_equalIn_array w 9999 U W J hi
   rw[N,List.range_eq_range']at this
   exact this.trans (zu 9998 K V X n 0 r (by simpa using h))
 ·simp at h;subst h
  obtain⟨e,D⟩:=D
  simp only[aq]at hx F;subst hx;subst F
  exact run_equal_slice_nil w t e _ _ _ D
 ·simp at h;subst h
  obtain⟨e,D⟩:=D
  simp only[aq,PRel]at hx F
  obtain⟨_,_,_,_,rfl,_⟩:=hx;subst F
  exact run_equal_slice_nil w t e _ _ _ D
 ·simp at h;subst h
  obtain⟨e,D⟩:=D
  simp only[aq]at hx F
  obtain⟨_,_,rfl,_⟩:=hx;subst F
  exact run_equal_slice_nil w t e _ _ _ D
 ·grind [aq,nJ]
 ·grind [aq,PRel,nJ]
 ·grind [aq,nJ]
 ·simp at h;subst h
  obtain⟨e,I,D⟩:=D
  simp only[aq]at hx F;subst hx;subst F
  exact run_equal_map_nil w t e I _ D
 ·simp at h;subst h
  obtain⟨e,I,D⟩:=D
  simp only[aq,PRel]at hx F
  obtain⟨_,_,_,rfl,_⟩:=hx;subst F
  exact run_equal_map_nil w t e I _ D
 ·simp at h;subst h
  obtain⟨e,I,D⟩:=D
  simp only[aq]at hx F
  obtain⟨_,rfl⟩:=hx;subst F
  exact run_equal_map_nil w t e I _ D
 ·cases h
section
variable{P:Program}{B:eZ}{st:St}{a:Act}{w:World}{β:aQ}{M:MSet}{o:Oper}{v:T}{ups:List Up}
variable(dS:kD β st.gens w M st.rho a.eval)(h:bh B st w β M)
include dS h in
def Px{neg:Bool}{k:EK}{t W:TypeId}{x y:Operand}{N O:aV}(V:o.op= .binOp (if neg then .neq else .eql) t x y W)(hx:eV x=some N)(X:eV y=some O)(hk:BH P t=some k)(hn:k≠ .one .int∧k≠ .one .str){r:Bool}
  (K:sS k (st.rho N) (st.rho O)=some r):eo P B st a w β M o (.b (r != neg)) []:=by
 have F:=dS x N hx
 have H:=dS y O X
 have U:=Pw (P:=P) hk F H K
 have Y:=mc hk
 refine aY h (cv:= .bool (r != neg)) ?_ (by simp only[aq])
 generalize st.rho N=tx at*
 generalize st.rho O=ty at*
 have D: ∀cx I,a.eval x=cx→a.eval y=I→(eqGuard (if neg then .neq else .eql) t x y cx I).run P w= .ok () w→
   ((binOp .eql t cx I)=(do pure (.bool (←Op.equal t cx I))))→((binOp .neq t cx I)=(do pure (.bool (!(←Op.equal t cx I)))))→(execOp a.eval o).run P w= .ok (.value (.bool (r != neg))) w:=by
  intro cx I e1 e2 e3 e4 e5
  rw[e1,e2]at U
  cases neg
  ·simp at e3
   simp[execOp,V,e1,e2,e3,e4,U]
  ·simp at e3
   simp[execOp,V,e1,e2,e3,e5,U]
 have J: ∀cx I,(∀z,cx≠ .agg z)→cx≠ .nilIface→(eqGuard (if neg then .neq else .eql) t x y cx I).run P w= .ok () w:=by
  intro cx I h1 h2
  cases neg <;> cases cx <;> simp[eqGuard]at*
 unfold sS at K
 split at K
 ·rename_i c
  unfold eL at K
  split at K
  ·exact D _ _ F.bool H.bool (J _ _ yv yv) rfl rfl
  ·grind
  ·grind
  ·cases K
 ·obtain⟨Z,_⟩:=Y
  simp only[aq]at F H
  obtain⟨xa,e1,_⟩:=F
  obtain⟨ya,e2,_⟩:=H
  exact D _ _ e1 e2 (run_eqGuard_agg w _ t x y xa ya Z) rfl rfl
 ·simp only[aq]at F H
  exact D _ _ F H (J _ _ yv yv) rfl rfl
 ·simp only[aq,PRel]at F H
  obtain⟨_,_,_,_,e1,_⟩:=F
  exact D _ _ e1 H (J _ _ yv yv) rfl rfl
 ·simp only[aq]at F H
  obtain⟨_,_,e1,_⟩:=F
  exact D _ _ e1 H (J _ _ yv yv) rfl rfl
 ·simp only[aq]at F H
  exact D _ _ F H (J _ _ yv yv) rfl rfl
 ·simp only[aq,PRel]at F H
  obtain⟨_,_,e1,_⟩:=F
  exact D _ _ e1 H (J _ _ yv yv) rfl rfl
 ·simp only[aq]at F H
  exact D _ _ F.2 H (J _ _ yv yv) rfl rfl
 ·simp only[aq]at F H
  exact D _ _ F H (J _ _ yv yv) rfl rfl
 ·simp only[aq,PRel]at F H
  obtain⟨_,_,_,e1,_⟩:=F
  exact D _ _ e1 H (J _ _ yv yv) rfl rfl
 ·simp only[aq]at F H
  exact D _ _ F.2 H (J _ _ yv yv) rfl rfl
 ·cases K
end
def MS{P:Program}{β:aQ}{G:Sp→Nat→Nat}{w:World}{M:MSet}{t:TypeId}{c:CK}{D:TypeDesc}{k x:T}{kv F:Value}{b:Bool}(hc:sU P t=some c)(r:P.underlying t=some D)(hk:aq β G w M k kv)(hx:aq β G w M x F)(h:eL c k x=some b):
  Instr.sameNow D kv F=some b:=by
 have MO:=pq hc
 unfold eL at h
 split at h
 ·simp at h;subst h
  rw[hk.bool,hx.bool]
  simp only at MO
  rw[r]at MO;simp at MO;subst MO
  rfl
 ·split at h
  ·rename_i e;subst e
   simp at h;subst h
   obtain⟨H,MO⟩:=MO
   rw[r]at MO;simp at MO;subst MO
   rw[hk.int,hx.int];simp[Instr.sameNow]
  ·cases h
 ·simp at h;subst h
  simp only at MO
  rw[r]at MO;simp at MO;subst MO
  obtain⟨I,e1,rfl⟩:=hk.str
  obtain⟨J,e2,rfl⟩:=hx.str
  rw[e1,e2]
  simp[Instr.sameNow,beq_toListBytes,bytesN_toList,fZ]
 ·cases h
def Found(F:List MapEntry)(off:Nat)(r:Option Nat)(D:Option (Nat×Value)):Prop:=
 match r with
 |none=>D=none
 |some i=> ∃e,F[i]? =some e∧D=some (off+i,e.val)
theorem BO{P:Program}{β:aQ}{G:Sp→Nat→Nat}{w:World}{M:MSet}{t:TypeId}{c:CK}{K:TypeDesc}{k:T}{kv:Value}(hc:sU P t=some c)(N:P.underlying t=some K)(hk:aq β G w M k kv):
  ∀(H:List MapEntry) (ks:List T) (off:Nat) (r:Option Nat),PList w M ks (H.map (·.key))→hZ (.one c) k ks=some r→ ∃D,Instr.findNow K kv H off=some D∧Found H off r D
 | [],ks,off,r,I,F=>by
   cases ks with
   |nil=>simp[hZ]at F;subst F;exact⟨none,rfl,rfl⟩
   |cons x xs=>simp[PList]at I
 |e::H,ks,off,r,I,F=>by
  cases ks with
  |nil=>simp[PList]at I
  |cons x xs=>
   simp only[List.map_cons,PList,List.cons.injEq]at I
   obtain⟨u,us,⟨rfl,rfl⟩,h1,h2⟩:=I
   simp only[hZ,sS]at F
   cases J:eL c k x with
   |none=>simp[J]at F
   |some b=>
    have hs:=MS hc N hk (PRel.toV β G _ _ h1) J
    cases b with
    |true=>
     simp[J]at F;subst F
     exact⟨some (off,e.val),by simp[Instr.findNow,hs],e,rfl,rfl⟩
    |false=>
     simp only[J,Option.map_eq_some_iff]at F
     obtain⟨O,h3,rfl⟩:=F
     obtain⟨D,e1,e2⟩:=BO hc N hk H xs (off+1) O h2 h3
     refine⟨D,by simp[Instr.findNow,hs,e1], ?_⟩
     cases O with
     |none=>exact e2
     |some i=>
      obtain⟨U,a1,a2⟩:=e2
      exact⟨U,by simpa using a1,by rw[a2];simp;omega⟩
theorem tp{P:Program}{β:aQ}{G:Sp→Nat→Nat}{w:World}{M:MSet}{t:TypeId}{K:EK}{k:T}{kv:Value}(hc:BH P t=some K)(hk:aq β G w M k kv):
  ∀(H:List MapEntry) (ks:List T) (off:Nat) (r:Option Nat),PList w M ks (H.map (·.key))→hZ K k ks=some r→ ∃D,(Instr.findAsking t kv H off).run P w= .ok D w∧Found H off r D
 | [],ks,off,r,I,F=>by
   cases ks with
   |nil=>simp[hZ]at F;subst F;exact⟨none,by simp[Instr.findAsking],rfl⟩
   |cons x xs=>simp[PList]at I
 |e::H,ks,off,r,I,F=>by
  cases ks with
  |nil=>simp[PList]at I
  |cons x xs=>
   simp only[List.map_cons,PList,List.cons.injEq]at I
   obtain⟨u,us,⟨rfl,rfl⟩,h1,h2⟩:=I
   simp only[hZ]at F
   cases J:sS K k x with
   |none=>simp[J]at F
   |some b=>
    have hs:=Pw (P:=P) hc hk (PRel.toV β G _ _ h1) J
    cases b with
    |true=>
     simp[J]at F;subst F
     exact⟨some (off,e.val),by simp[Instr.findAsking,hs],e,rfl,rfl⟩
    |false=>
     simp only[J,Option.map_eq_some_iff]at F
     obtain⟨N,h3,rfl⟩:=F
     obtain⟨D,e1,e2⟩:=tp hc hk H xs (off+1) N h2 h3
     refine⟨D,by simp[Instr.findAsking,hs,e1], ?_⟩
     cases N with
     |none=>exact e2
     |some i=>
      obtain⟨O,a1,a2⟩:=e2
      exact⟨O,by simpa using a1,by rw[a2];simp;omega⟩
def Gu{P:Program}{t:TypeId}{r:EK}(h:keyOf P t=some r):BH P t=some r∧((∃c,r= .one c)∨ ∃ks,r= .flat ks):=by
 grind [keyOf]
def XP{P:Program}{t:TypeId}{ks:List CK}(h:keyOf P t=some (.flat ks)): ∃r,P.underlying t=some (.struct r)∧ji P 0 r.toList=some ks:=by
 have F:=(Gu h).1
 unfold keyOf at h
 rw[F]at h
 obtain⟨_,⟨r,D,_,H⟩|⟨n,e,c,D,_⟩⟩:=mc F
 ·exact⟨r,D,H⟩
 ·simp[D]at h
def pt{P:Program}{β:aQ}{G:Sp→Nat→Nat}{w:World}{M:MSet}{t:TypeId}{K:EK}{k:T}{kv:Value}(hc:keyOf P t=some K)(hk:aq β G w M k kv)(F:List MapEntry)(ks:List T)(r:Option Nat)(I:PList w M ks (F.map (·.key)))
  (H:hZ K k ks=some r): ∃D,(Instr.findKey t kv F).run P w= .ok D w∧Found F 0 r D:=by
 obtain⟨N,W⟩:=Gu hc
 unfold Instr.findKey
 rcases W with⟨c,rfl⟩|⟨ck,rfl⟩
 ·have J:=mc N
  simp only at J
  have: ∃O,P.underlying t=some O:=by
   have:=pq J
   grind
  obtain⟨O,U⟩:=this
  obtain⟨D,e1,e2⟩:=BO J U hk F ks 0 r I H
  exact⟨D,by simp[run_underlying U,e1],e2⟩
 ·obtain⟨X,V,_⟩:=XP hc
  obtain⟨D,e1,e2⟩:=tp (P:=P) N hk F ks 0 r I H
  cases F with
  |nil=>
   refine⟨D, ?_,e2⟩
   have:D=none:=by
    cases ks with
    |nil=>simp[hZ]at H;subst H;exact e2
    |cons x xs=>simp[PList]at I
   subst this
   simp[run_underlying V,Instr.findNow]
  |cons e F=>
   refine⟨D, ?_,e2⟩
   have:Instr.sameNow (.struct X) kv e.key=none:=by unfold Instr.sameNow;split <;> simp_all
   simp[run_underlying V,Instr.findNow,this,e1]
theorem vK{P:Program}{w:World}{t:TypeId}{c:CK}(hc:sU P t=some c)(n:Nat)(r:Bool)(v:Value):(Instr.checkKey r (n+1) t v).run P w= .ok () w:=by
 have:=pq hc
 cases c
 ·obtain⟨D,e⟩:=this;simp[Instr.checkKey,run_underlying e]
 ·simp[Instr.checkKey,run_underlying this]
 ·simp[Instr.checkKey,run_underlying this]
theorem qm{P:Program}{w:World}(n:Nat)(F:Bool)(cs:Array Value): ∀(r:List Field) (i:Nat) (ks:List CK),ji P i r=some ks→i+ks.length≤cs.size→
  (forIn r PUnit.unit (fun f (_:PUnit)=>
    if f.name≠ "_" then(do
     let p ←Go.part f.type cs f.offset
     Instr.checkKey F (n+1) f.type p
     pure (ForInStep.yield PUnit.unit))else pure (ForInStep.yield PUnit.unit):Field→PUnit→Sem (ForInStep PUnit))).run P w= .ok PUnit.unit w
 | [],i,ks,hk,hs=>by simp
 |f::r,i,ks,hk,hs=>by
  simp only[ji]at hk
  split at hk
  ·rename_i hc
   simp at hc
   obtain⟨⟨I,J⟩,K⟩:=hc
   split at hk
   ·rename_i k D h1 h2
    simp at hk;subst hk
    have H:qx P f.type=some false:=by
     have:=pq h1
     grind [qx]
    have hi:i<cs.size:=by simp at hs;omega
    have N:(Go.part f.type cs f.offset).run P w= .ok cs[i] w:=by
     simp_all[Go.part,Sem.run_bind,mb,Result.andThen_ok,Array.getElem?_eq_getElem]
    have ih:=qm (P:=P) (w:=w) n F cs r (i+1) D h2 (by simp at hs;omega)
    grind [Sem.run_bind,Result.andThen_ok,vK,Sem.run_pure]
   ·cases hk
  ·cases hk
def zy{P:Program}{β:aQ}{G:Sp→Nat→Nat}{w:World}{M:MSet}{t:TypeId}{F:EK}{k:T}{kv:Value}(hc:keyOf P t=some F)(hk:aq β G w M k kv)(Py:isKey F k=true)(n:Nat)(D:Bool):
  (Instr.checkKey D (n+2) t kv).run P w= .ok () w:=by
 obtain⟨I,J⟩:=Gu hc
 rcases J with⟨c,rfl⟩|⟨ck,rfl⟩
 ·exact vK (mc I) (n+1) D kv
 ·obtain⟨K,N,O⟩:=XP hc
  unfold isKey at Py
  split at Py
  ·simp_all
  ·rename_i ks xs e
   simp at e;subst e
   simp only[aq]at hk
   obtain⟨r,rfl,U,_⟩:=hk
   have H:ck.length≤r.size:=by
    have h1:=av.length _ _ U
    have: ∀(ks:List CK) (xs:List T),lJ ks xs=true→ks.length=xs.length:=by
     intro ks
     induction ks with
     |nil=>intro xs h;cases xs <;> simp[lJ]at h ⊢
     |cons k ks ih=>intro xs h;cases xs <;> simp[lJ]at h ⊢; exact ih _ h.2
    grind
   have:=qm (P:=P) (w:=w) n D r K.toList 0 ck O zV
   rw[Instr.checkKey]
   simp only[Sem.run_bind,run_underlying N,Result.andThen_ok]
   simp_all
  ·cases Py
end Go.Ev
