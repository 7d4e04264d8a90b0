/- A tree evaluator over the model, proved against it (part B): where it answers, the call returns that answer. Conditions: none beyond its theorems' own. -/
import Derived.Test.YtblcbheipjeoeaaGreatEvA
import Derived.Laws.Cells
import Derived.Laws.CopyRow
import Derived.Laws.AppendOwn
import Derived.Laws.Entries
import Derived.Laws.StructEq
import Derived.Laws.Cover3
set_option linter.unusedSimpArgs false
set_option linter.unusedVariables false
namespace Go.Ev
open Go
theorem uQ{w:World}{M:fE}{v:Value}{t:T}(h:uo v=some t):PRel w M t v∧single t=true:=by
 unfold uo at h
 split at h
 case h_8 f a c=>
  split at h
  ·rename_i h1 h2
   simp at h;subst h
   simp only[PRel,single]
   exact⟨⟨a,c,rfl,by rw[h1];simp[PList],by rw[h2];simp[PList]⟩,trivial⟩
  ·simp at h
 all_goals (simp at h)
 all_goals (subst h;simp[PRel,PList,single])
theorem qg{w:World}{M:fE}: ∀{vs:List Value} {ts:List T},oe vs=some ts→PList w M ts vs∧ts.all single=true
 | [],ts,h=>by simp[oe]at h;subst h;simp[PList]
 |v::vs,ts,h=>by
  simp only[oe]at h
  split at h
  ·rename_i t Ak h1 h2
   simp at h;subst h
   have a:=uQ (w:=w) (M:=M) h1
   have b:=qg (w:=w) (M:=M) h2
   simp only[PList,List.all_cons,Bool.and_eq_true]
   exact⟨⟨v,vs,rfl,a.1,b.1⟩,a.2,b.2⟩
  ·simp at h
theorem qh{w:World}{M:fE}{v:Value}{t:T}(h:Ae v=some t):PRel w M t v:=by
 unfold Ae at h
 split at h
 ·rename_i cs
  simp only[Option.map_eq_some_iff]at h
  obtain⟨ts,h1,rfl⟩:=h
  have:=qg (w:=w) (M:=M) h1
  simp only[PRel];exact⟨cs,rfl,this.1,this.2⟩
 ·rename_i cs
  simp only[Option.map_eq_some_iff]at h
  obtain⟨ts,h1,rfl⟩:=h
  have:=qg (w:=w) (M:=M) h1
  simp only[PRel];exact⟨cs,rfl,this.1⟩
 ·exact(uQ h).1
def py(β:fS)(G:Sp→Nat→Nat)(w:World)(M:fE)(ρ:fM→T)(e:Operand→Value):Prop:= ∀x y,jO x=some y→fk β G w M (ρ y) (e x)
theorem OY{st:St}{a:Act}{w:World}{β:fS}{M:fE}{n:Nat}(h:nl st a w β M n):py β st.gens w M st.rho a.eval:=by
 intro x y uR
 cases x with
 |tmp t=>simp[jO]at uR;subst uR;exact h.slot t
 |const v=>
  simp only[jO,Option.map_eq_some_iff]at uR
  obtain⟨t,h1,rfl⟩:=uR
  exact PRel.toV _ _ _ _ (qh h1)
 |global g=>simp[jO]at uR
 |func f=>simp[jO]at uR;subst uR;simp[St.rho,Act.eval,fk,fo]
def jr(P:Program)(B:jR)(st:St)(a:Act)(w:World)(β:fS)(M:fE)(o:Oper)(v:T)(ups:List Up):Prop:=
 ∃nx cv w' fW M',(execOp a.eval o).run P w= .ok nx w'∧(nx= .value cv∨(nx= .skip∧cv=undef))∧fY B (st.ups ups) w' fW M'∧Tr st w β M (st.ups ups) w' fW M'∧w.heap.size≤w'.heap.size∧fk fW (st.ups ups).gens w' M' v cv
section
variable{P:Program}{B:jR}{st:St}{a:Act}{w:World}{β:fS}{M:fE}{o:Oper}{v:T}{ups:List Up}
theorem fV(h:fY B st w β M){cv:Value}(hr:(execOp a.eval o).run P w= .ok (.value cv) w)(hv:fk β st.gens w M v cv):jr P B st a w β M o v []:=
 ⟨_,cv,w,β,M,hr,.inl rfl,h,Tr.refl _ _ _ _,Nat.le_refl _,hv⟩
variable(hZ:py β st.gens w M st.rho a.eval)(h:fY B st w β M)
include hZ h
theorem XX{x:Operand}{y:fM}(ho:o.op= .move x∨o.op= .assign x)(hx:jO x=some y):jr P B st a w β M o (st.rho y) []:=
 fV h (cv:=a.eval x) (by rcases ho with ho|ho <;> simp[execOp,ho]) (hZ x y hx)
theorem J0{c x y:Operand}{c' x' y':fM}(ho:o.op= .pick c x y)(h1:jO c=some c')(h2:jO x=some x')(h3:jO y=some y'){bb:Bool}(hb:st.rho c'= .b bb):
  jr P B st a w β M o (st.rho (if bb then x' else y')) []:=by
 have hc:=hZ c c' h1
 rw[hb]at hc;simp only[fk]at hc
 cases bb
 ·exact fV h (cv:=a.eval y) (by simp[execOp,ho,hc,asBool]) (hZ y y' h3)
 ·exact fV h (cv:=a.eval x) (by simp[execOp,ho,hc,asBool]) (hZ x x' h2)
theorem Zv{d nx:Nat}{x:Operand}{y:fM}(ho:o.op= .nilCheck x)(hx:jO x=some y){v:T}(hq:(gA d st.rho (.nck y)).run st.get nx=some (.val v ups)):jr P B st a w β M o v ups:=by
 have hv:=hZ x y hx
 simp only[gA]at hq
 split at hq <;> simp[Q.run]at hq <;> obtain⟨rfl,rfl⟩:=hq <;> rename_i e
 ·rw[e]at hv
  refine fV h (cv:=a.eval x) ?_ hv
  simp only[fk,PRel]at hv
  obtain⟨blk,off,h1,_⟩:=hv
  simp[execOp,ho,h1]
 ·rw[e]at hv
  refine fV h (cv:=a.eval x) ?_ hv
  simp only[fk]at hv
  simp[execOp,ho,hv.2]
 ·rw[e]at hv
  refine fV h (cv:=a.eval x) ?_ hv
  simp only[fk]at hv
  obtain⟨fa,fc,h1,_⟩:=hv
  simp[execOp,ho,h1]
end
end Go.Ev
namespace Go.Ev
open Go
theorem yl(k:IntKind)(n:Int):wr k n=k.wrap n:=by
 unfold wr
 split
 ·rename_i h
  cases k <;> simp only[lo,hi]at h <;> simp[IntKind.wrap,IntKind.bits,IntKind.signed] <;> omega
 ·rfl
theorem ig(x:ByteArray):ga x=x.toList.map UInt8.toNat:=by rw[ByteArray.toList_eq];rfl
theorem lr: ∀(a b:List UInt8),(a.map UInt8.toNat==b.map UInt8.toNat)=(a==b)
 | [],[]=>rfl
 | [],_::_=>rfl
 |_::_,[]=>rfl
 |x::xs,y::ys=>by
  simp only[List.map_cons,List.cons_beq_cons,lr xs ys]
  congr 1
  rw[Bool.eq_iff_iff];simp[UInt8.toNat_inj]
theorem zP: ∀(a b:List UInt8),gS (a.map UInt8.toNat) (b.map UInt8.toNat)=Op.bytesLess a b
 | [],[]=>rfl
 | [],_::_=>rfl
 |_::_,[]=>rfl
 |x::xs,y::ys=>by
  simp only[List.map_cons,gS,Op.bytesLess,zP xs ys]
  have h1:decide (x.toNat<y.toNat)=decide (x<y):=by rw[Bool.eq_iff_iff];simp[UInt8.lt_iff_toNat_lt]
  have h2:(x.toNat==y.toNat)=(x==y):=by rw[Bool.eq_iff_iff];simp[UInt8.toNat_inj]
  rw[h1,h2]
theorem kH(x:ByteArray):(ga x).length=x.size:=by
 unfold ga;rw[List.length_map,Array.length_toList];rfl
theorem BX(x y:ByteArray):ga (x++y)=ga x++ga y:=by simp[ga,ByteArray.data_append]
section
variable{P:Program}{B:jR}{st:St}{a:Act}{w:World}{β:fS}{M:fE}{o:Oper}{v:T}{ups:List Up}
theorem fk.int{k:IntKind}{n:Int}{cv:Value}{G:Sp→Nat→Nat}(h:fk β G w M (.i k n) cv):cv= .int k n:=by simpa only[fk]using h
theorem fk.str{l:List Nat}{cv:Value}{G:Sp→Nat→Nat}(h:fk β G w M (.s l) cv): ∃bs,cv= .string bs∧ga bs=l:=by simpa only[fk]using h
theorem fk.bool{x:Bool}{cv:Value}{G:Sp→Nat→Nat}(h:fk β G w M (.b x) cv):cv= .bool x:=by simpa only[fk]using h
theorem To{op:BinOp}{k:IntKind}{x y:Int}{t:TypeId}{r:T}(h:tA op k x y=some r)(hs:op≠ .shl∧op≠ .shr): ∃cv,(binOp op t (.int k x) (.int k y)).run P w= .ok cv w∧ ∀G,fk β G w M r cv:=by
 cases op <;> simp only[tA,Option.some.injEq]at h <;> try (subst h)
 all_goals first
  |exact absurd rfl hs.1
  |exact absurd rfl hs.2
  |skip
 case quo=>
  split at h
  ·cases h
  ·rename_i hy
   simp at h;subst h
   exact⟨_,by simp[binOp,Op.intDiv,hy];rfl,fun G=>by simp[fk,yl]⟩
 case rem=>
  split at h
  ·cases h
  ·rename_i hy
   simp at h;subst h
   exact⟨_,by simp[binOp,Op.intDiv,hy];rfl,fun G=>by simp[fk]⟩
 all_goals first
  |exact⟨_,by simp[binOp,Op.intArith,Op.intBits,Op.intCmp];rfl,fun G=>by simp[fk,yl]⟩
  |cases h
theorem Cy{op:BinOp}{k k':IntKind}{x y:Int}{t:TypeId}{r:T}(h:Aa op k x y=some r): ∃cv,(binOp op t (.int k x) (.int k' y)).run P w= .ok cv w∧ ∀G,fk β G w M r cv:=by
 unfold Aa at h
 split at h
 ·cases h
 ·rename_i hy
  cases op <;> simp at h <;> subst h
  ·exact⟨_,by simp[binOp,Op.shift,hy];rfl,fun G=>by simp[fk]⟩
  ·exact⟨_,by simp[binOp,Op.shift,hy];rfl,fun G=>by simp[fk]⟩
theorem Tp{op:BinOp}{x y:ByteArray}{t:TypeId}{r:T}(h:LU op (ga x) (ga y)=some r): ∃cv,(binOp op t (.string x) (.string y)).run P w= .ok cv w∧ ∀G,fk β G w M r cv:=by
 have e1:(ga x==ga y)=(x.toList==y.toList):=by rw[ig,ig,lr]
 have e2:gS (ga x) (ga y)=Op.bytesLess x.toList y.toList:=by rw[ig,ig,zP]
 have e3:(ga x != ga y)= !(x.toList==y.toList):=by rw[bne,e1]
 cases op <;> simp only[LU]at h <;> try (cases h;done)
 case add=>
  split at h
  ·rename_i hl
   simp at h;subst h
   rw[kH,kH]at hl
   have: ¬(((x.size+y.size:Nat):Int)>IntKind.i64.max):=by simp[IntKind.max,IntKind.signed,IntKind.bits];omega
   exact⟨.string (x++y),by simp only[binOp,Op.stringOp,this,if_false];rfl,fun G=>by simp only[fk];exact⟨_,rfl,BX x y⟩⟩
  ·cases h
 all_goals
  simp only[Option.some.injEq]at h
  subst h
  refine⟨_,by simp only[binOp,Op.stringOp];rfl,fun G=> ?_⟩
  simp only[fk,e1,e2,e3]
variable(hZ:py β st.gens w M st.rho a.eval)(h:fY B st w β M)
include hZ h
theorem Zw{op:BinOp}{t t':TypeId}{x y:Operand}{x' y':fM}(ho:o.op= .binOp op t x y t')(hx:jO x=some x')(hy:jO y=some y')(hq:Ev.bin op (st.rho x') (st.rho y')=some v):jr P B st a w β M o v []:=by
 have vx:=hZ x x' hx
 have vy:=hZ y y' hy
 generalize st.rho x'=tx at*
 generalize st.rho y'=ty at*
 have HZ: ∀k k' m n,(eqGuard op t x y (.int k m) (.int k' n)).run P w= .ok () w:=by intro k k' m n;cases op <;> simp[eqGuard]
 have Zx: ∀m n,(eqGuard op t x y (.string m) (.string n)).run P w= .ok () w:=by intro m n;cases op <;> simp[eqGuard]
 unfold Ev.bin at hq
 split at hq
 ·rename_i k1 a1 k2 b1
  have e1:=vx.int;have e2:=vy.int
  obtain⟨cv,r1,r2⟩:=Cy (P:=P) (w:=w) (β:=β) (M:=M) (t:=t) (k':=k2) hq
  exact fV h (cv:=cv) (by simp[execOp,ho,e1,e2,HZ,r1]) (r2 _)
 ·rename_i k1 a1 k2 b1
  have e1:=vx.int;have e2:=vy.int
  obtain⟨cv,r1,r2⟩:=Cy (P:=P) (w:=w) (β:=β) (M:=M) (t:=t) (k':=k2) hq
  exact fV h (cv:=cv) (by simp[execOp,ho,e1,e2,HZ,r1]) (r2 _)
 ·rename_i tj yw
  split at hq
  ·rename_i hk
   subst hk
   have e1:=vx.int;have e2:=vy.int
   obtain⟨cv,r1,r2⟩:=To (P:=P) (w:=w) (β:=β) (M:=M) (t:=t) hq ⟨fun e=>tj e,fun e=>yw e⟩
   exact fV h (cv:=cv) (by simp[execOp,ho,e1,e2,HZ,r1]) (r2 _)
  ·cases hq
 ·obtain⟨bx,e1,rfl⟩:=vx.str
  obtain⟨bY,e2,rfl⟩:=vy.str
  obtain⟨cv,r1,r2⟩:=Tp (P:=P) (w:=w) (β:=β) (M:=M) (t:=t) hq
  exact fV h (cv:=cv) (by simp[execOp,ho,e1,e2,Zx,r1]) (r2 _)
 ·cases hq
theorem agt{op:UnOp}{t:TypeId}{x:Operand}{x':fM}(ho:o.op= .unOp op t x)(hx:jO x=some x')(hq:Ev.un op (st.rho x')=some v):jr P B st a w β M o v []:=by
 have vx:=hZ x x' hx
 generalize st.rho x'=tx at*
 unfold Ev.un at hq
 split at hq
 ·simp at hq;subst hq
  exact fV h (cv:=_) (by simp[execOp,ho,vx.int,Op.unary,Op.intArith];rfl) (by simp[fk,yl])
 ·simp at hq;subst hq
  exact fV h (cv:=_) (by simp[execOp,ho,vx.bool,Op.unary];rfl) (by simp only[fk])
 ·rename_i k n
  simp only[tA,Option.some.injEq]at hq;subst hq
  exact fV h (cv:= .int k (k.wrap (BitVec.ofInt k.bits (if k.signed then-1 else k.max) ^^^ BitVec.ofInt k.bits n).toNat)) (by simp only[execOp,ho,vx.int,Op.unary,Op.intBits];rfl) (by simp only[fk])
 ·cases hq
theorem Zy{s t:TypeId}{k:IntKind}{x:Operand}{x':fM}(ho:o.op= .convert s t x)(hx:jO x=some x')(hs: ∃k',P.underlying s=some (.int k'))(ht:P.underlying t=some (.int k)){k':IntKind}{n:Int}(hv:st.rho x'= .i k' n):
  jr P B st a w β M o (.i k (wr k n)) []:=by
 have vx:=hZ x x' hx
 rw[hv]at vx
 obtain⟨ks,hs⟩:=hs
 exact fV h (cv:= .int k (k.wrap n)) (by simp[execOp,ho,vx.int,convert,run_underlying hs,run_underlying ht,Conv.intToInt]) (by simp only[fk,yl])
omit h in
theorem ur: ∀{xs:List Operand} {ys:List fM},xH xs=some ys→fo β st.gens w M (ys.map st.rho) (xs.map a.eval)
 | [],ys,h=>by simp[xH]at h;subst h;simp[fo]
 |x::xs,ys,h=>by
  simp only[xH]at h
  split at h
  ·rename_i y ys' h1 h2
   simp at h;subst h
   simp only[List.map_cons,fo]
   exact⟨_,_,rfl,hZ x y h1,ur h2⟩
  ·cases h
theorem Tq{f:FuncId}{first cap:Array Operand}{fs cs:List fM}(ho:o.op= .makeFunc (.func f) first cap)(h1:xH first.toList=some fs)(h2:xH cap.toList=some cs):
  jr P B st a w β M o (.fn f (fs.map st.rho) (cs.map st.rho)) []:=
 fV h (cv:= .func (.func f) (first.map a.eval) (cap.map a.eval)) (by simp[execOp,ho,Instr.makeFunc]) (by
  simp only[fk]
  exact⟨_,_,rfl,by simpa using ur hZ h1,by simpa using ur hZ h2⟩)
theorem Zz{x:Operand}{x':fM}{j:Nat}(ho:o.op= .extract x j)(hx:jO x=some x'){vs:List T}(hv:st.rho x'= .tup vs)(hj:vs[j]? =some v):jr P B st a w β M o v []:=by
 have vx:=hZ x x' hx
 rw[hv]at vx
 simp only[fk]at vx
 obtain⟨arr,e,hl⟩:=vx
 obtain⟨cv,c1,c2⟩:=hl.get hj
 have SE:arr[j]? =some cv:=by simpa using c1
 exact fV h (cv:=cv) (by simp[execOp,ho,e,Instr.extract,SE]) c2
end
end Go.Ev
namespace Go.Ev
open Go
theorem lJ{P:Program}{t:TypeId}{n:Nat}(h:jG P t=some n)(w:World):(sizeOf t).run P w= .ok n w:=by
 unfold jG at h
 cases hi:P.info? t with
 |none=>simp[hi]at h
 |some i=>simp[hi]at h;simp[sizeOf,typeInfo,hi,h]
theorem tF{P:Program}{t:TypeId}{ag:Bool}(h:uK P t=some ag)(w:World):(isAgg t).run P w= .ok ag w:=by
 unfold uK at h
 cases hu:P.underlying t with
 |none=>simp[hu]at h
 |some d=>
  simp only[hu,Option.map_some,Option.some.injEq]at h
  unfold isAgg
  simp only[Sem.run_bind,run_underlying hu,Result.andThen_ok]
  cases d <;> simp at h <;> subst h <;> rfl
theorem FH{P:Program}{β:fS}{G:Sp→Nat→Nat}{w:World}{M:fE}{t:TypeId}{off n:Nat}{ag:Bool}{cs:List T}{arr:Array Value}{v:T}(hn:jG P t=some n)(ha:uK P t=some ag)
  (hl:fo β G w M cs arr.toList) (hs:cs.all single=true) (h:Ev.part cs off n ag=some v): ∃cv,(Go.part t arr off).run P w= .ok cv w∧fk β G w M v cv:=by
 unfold Ev.part at h
 unfold Go.part
 simp only[Sem.run_bind,tF ha,Result.andThen_ok]
 cases ag with
 |true=>
  simp only[if_true]at h ⊢
  split at h
  ·rename_i hle
   simp at h;subst h
   refine⟨.agg (arr.extract off (off+n)),by simp[lJ hn], ?_⟩
   simp only[fk]
   refine⟨_,rfl, ?_,ma hs _ _⟩
   have:=fo.take n (fo.drop off hl)
   have e:(arr.extract off (off+n)).toList=(arr.toList.drop off).take n:=by
    rw[Array.toList_extract,List.extract_eq_take_drop];congr 1;omega
   rw[e];exact this
  ·cases h
 |false=>
  simp only[Bool.false_eq_true,if_false]at h ⊢
  obtain⟨cv,c1,c2⟩:=hl.get h
  have SE:arr[off]? =some cv:=by simpa using c1
  exact⟨cv,by simp[SE],c2⟩
theorem kC(b o n:Nat):(⟨b,o,none⟩:Addr).add n=⟨b,o+n,none⟩:=by unfold Addr.add;split <;> simp_all
theorem fI.get{w:World}{M:fE}{blk:Nat}: ∀{off:Nat} {ts:List T},fI w M blk off ts→ ∀{j:Nat} {t:T},ts[j]? =some t→ ∃v,w.cell? ⟨blk,off+j,none⟩=some v∧ ¬M blk (off+j)∧PRel w M t v∧single t=true
 |off,[],h,j,t,ht=>by simp at ht
 |off,c::cs,h,j,t,ht=>by
  simp only[fI]at h
  obtain⟨h1,h2⟩:=h
  cases j with
  |zero=>simp at ht;subst ht;exact h1
  |succ j=>
   simp at ht
   obtain⟨v,e⟩:=fI.get h2 ht
   rw[show off+(j+1)=off+1+j by omega]
   exact⟨v,e⟩
theorem fI.drop{w:World}{M:fE}{blk:Nat}: ∀{off:Nat} {ts:List T} (n:Nat),fI w M blk off ts→n≤ts.length→fI w M blk (off+n) (ts.drop n)
 |off,ts,0,h,_=>by simpa using h
 |off,[],n+1,h,hl=>by simp at hl
 |off,c::cs,n+1,h,hl=>by
  simp only[fI]at h
  have:=fI.drop n h.2 (by simpa using hl)
  rw[show off+(n+1)=off+1+n by omega]
  simpa using this
theorem fI.take{w:World}{M:fE}{blk:Nat}: ∀{off:Nat} {ts:List T} (n:Nat),fI w M blk off ts→fI w M blk off (ts.take n)
 |off,ts,0,h=>by simp[fI]
 |off,[],n+1,h=>by simp[fI]
 |off,c::cs,n+1,h=>by
  simp only[fI]at h
  simp only[List.take_succ_cons,fI]
  exact⟨h.1,fI.take n h.2⟩
theorem fI.load{P:Program}{w:World}{M:fE}{blk:Nat}: ∀{off:Nat} {ts:List T},fI w M blk off ts→ ∃vs:List Value,vs.length=ts.length∧(∀j v,vs[j]? =some v→w.cell? ⟨blk,off+j,none⟩=some v)∧PList w M ts vs∧ts.all single=true
 |off,[],h=>⟨[],rfl,by simp,by simp[PList],rfl⟩
 |off,c::cs,h=>by
  simp only[fI]at h
  obtain⟨⟨v,h1,_,h3,h4⟩,h2⟩:=h
  obtain⟨vs,e1,e2,e3,e4⟩:=fI.load (P:=P) h2
  refine⟨v::vs,by simp[e1],fun j u hu=> ?_, ?_,by simp[h4,e4]⟩
  ·cases j with
   |zero=>simp at hu;subst hu;exact h1
   |succ j=>rw[show off+(j+1)=off+1+j by omega];exact e2 j u (by simpa using hu)
  ·simp only[PList];exact⟨v,vs,rfl,h3,e3⟩
theorem FI{P:Program}{β:fS}{G:Sp→Nat→Nat}{w:World}{M:fE}{t:TypeId}{n:Nat}{ag:Bool}{blk off o:Nat}{cs:List T}{vs:List Value}{v:T}(hn:jG P t=some n)(ha:uK P t=some ag)
  (hc: ∀j u,vs[j]? =some u→w.cell? ⟨blk,off+j,none⟩=some u) (hl:fo β G w M cs vs) (hs:cs.all single=true) (h:Ev.part cs o n ag=some v):
  ∃cv,(loadVar t ⟨blk,off+o,none⟩).run P w= .ok cv w∧fk β G w M v cv:=by
 unfold Ev.part at h
 unfold loadVar
 simp only[Sem.run_bind,tF ha,Result.andThen_ok]
 cases ag with
 |true=>
  simp only[if_true]at h ⊢
  split at h
  ·rename_i hle
   simp at h;subst h
   have hlen:=fo.length _ _ hl
   have sZ:((vs.drop o).take n).length=n:=by simp;omega
   have:=run_loadCells_list (P:=P) w ⟨blk,off+o,none⟩ ((vs.drop o).take n) (fun j u hu=>by
    rw[kC]
    rw[List.getElem?_take]at hu
    split at hu
    ·rw[List.getElem?_drop]at hu
     rw[Nat.add_assoc];exact hc _ _ hu
    ·cases hu)
   rw[sZ]at this
   refine⟨.agg ((vs.drop o).take n).toArray,by simp[lJ hn,this], ?_⟩
   simp only[fk]
   exact⟨_,rfl,by simpa using fo.take n (fo.drop o hl),ma hs _ _⟩
  ·cases h
 |false=>
  simp only[Bool.false_eq_true,if_false]at h ⊢
  obtain⟨cv,c1,c2⟩:=hl.get h
  exact⟨cv,by simp[Go.load,Sem.run,hc _ _ c1],c2⟩
section
variable{P:Program}{B:jR}{st:St}{a:Act}{w:World}{β:fS}{M:fE}{o:Oper}{v:T}{ups:List Up}
variable(hZ:py β st.gens w M st.rho a.eval)(h:fY B st w β M)
include h
theorem FJ{t:TypeId}{n nx:Nat}{ag:Bool}{x:T}{cx:Value}(hn:jG P t=some n)(ha:uK P t=some ag)(vx:fk β st.gens w M x cx)(hq:(DF x n ag).run st.get nx=some v):
  ∃ad cv,cx= .pointer (some ad)∧(loadVar t ad).run P w= .ok cv w∧fk β st.gens w M v cv:=by
 unfold DF at hq
 split at hq
 ·rename_i cs
  simp only[fk,PRel]at vx
  obtain⟨blk,off,rfl,hc⟩:=vx
  obtain⟨vs,_,e2,e3,e4⟩:=fI.load (P:=P) hc
  cases hp:Ev.part cs 0 n ag with
  |none=>simp[hp,Q.of,Q.run]at hq
  |some v'=>
   simp[hp,Q.of,Q.run]at hq;subst hq
   obtain⟨cv,r1,r2⟩:=FI (P:=P) (β:=β) (G:=st.gens) (M:=M) hn ha e2 (PList.toV _ _ _ _ e3) e4 hp
   exact⟨_,cv,rfl,by simpa using r1,r2⟩
 ·rename_i sp k g off
  simp only[Q.run]at hq
  split at hq
  ·rename_i hg
   have ho:=h.obj sp k
   generalize he:st.get sp k=e at*
   obtain⟨ge,ob⟩:=e
   dsimp only at hg;subst hg
   cases ob with
   |none=>simp[Q.run]at hq
   |map _ _ _=>simp[Q.run]at hq
   |cells cs wm bx=>
    dsimp only at hq
    cases hp:Ev.part cs off n ag with
    |none=>simp[hp,Q.of,Q.run]at hq
    |some v'=>
     simp[hp,Q.of,Q.run]at hq;subst hq
     unfold jf at ho
     obtain⟨c,el,fz,h1,h2,h3,h4,h5,h6,h7⟩:=ho
     dsimp only at h1 h2 h3 h5
     have J1:fo β st.gens w M cs ((c.toList.drop (β sp k ge).off).take cs.length):=by
      exact h5.toV
     simp only[fk]at vx
     obtain⟨_,rfl⟩:=vx
     have OX: ∀j u,((c.toList.drop (β sp k ge).off).take cs.length)[j]? =some u→w.cell? ⟨(β sp k ge).blk,(β sp k ge).off+j,none⟩=some u:=by
      intro j u hu
      rw[List.getElem?_take]at hu
      split at hu
      ·rw[List.getElem?_drop]at hu
       unfold World.cell?;rw[h1];simpa using hu
      ·cases hu
     obtain⟨cv,r1,r2⟩:=FI (P:=P) hn ha OX J1 h7.1 hp
     exact⟨_,cv,rfl,r1,r2⟩
  ·simp[Q.run]at hq
 ·simp[Q.run]at hq
include hZ
theorem agu{d nx:Nat}{t:TypeId}{x:Operand}{x':fM}{n:Nat}{ag:Bool}(ho:o.op= .load t x)(hx:jO x=some x')(hn:jG P t=some n)(ha:uK P t=some ag)
  (hq:(gA d st.rho (.ld x' n ag)).run st.get nx=some (.val v ups)):jr P B st a w β M o v ups:=by
 simp only[gA,Q.run_bind]at hq
 cases hl:(DF (st.rho x') n ag).run st.get nx with
 |none=>simp[hl]at hq
 |some v'=>
  simp[hl,Q.run]at hq
  obtain⟨rfl,rfl⟩:=hq
  obtain⟨ad,cv,e,r1,r2⟩:=FJ (P:=P) h hn ha (hZ x x' hx) hl
  exact fV h (cv:=cv) (by simp[execOp,ho,e,Instr.loadAt,Instr.sureAddr,r1]) r2
theorem agv{d nx:Nat}{s:TypeId}{x:Operand}{x':fM}{f n:Nat}{fs:Array Field}{fd:Field}(ho:o.op= .fieldAddr s x f)(hx:jO x=some x')(hs:P.underlying s=some (.struct fs))(hf:fs[f]? =some fd)(hn:jG P fd.type=some n)(h0:n≠0)
  (hq:(gA d st.rho (.fa x' fd.offset)).run st.get nx=some (.val v ups)):jr P B st a w β M o v ups:=by
 have vx:=hZ x x' hx
 have run: ∀blk off,a.eval x= .pointer (some ⟨blk,off,none⟩)→(execOp a.eval o).run P w= .ok (.value (.pointer (some ⟨blk,off+fd.offset,none⟩))) w:=by
  intro blk off e
  simp[execOp,ho,e,Instr.fieldAt,run_underlying hs,hf,Instr.sureAddr,fieldPlace,lJ hn,h0,kC]
 simp only[gA]at hq
 split at hq
 ·rename_i cs e
  split at hq
  ·rename_i hle
   simp[Q.run]at hq;obtain⟨rfl,rfl⟩:=hq
   rw[e]at vx
   simp only[fk,PRel]at vx
   obtain⟨blk,off,e1,hc⟩:=vx
   refine fV h (run blk off e1) ?_
   simp only[fk,PRel]
   exact⟨blk,_,rfl,fI.drop _ hc hle⟩
  ·simp[Q.run]at hq
 ·rename_i sp k g off e
  simp[Q.run]at hq;obtain⟨rfl,rfl⟩:=hq
  rw[e]at vx
  simp only[fk]at vx
  refine fV h (run _ _ vx.2) ?_
  simp only[fk]
  exact⟨vx.1,by rw[Nat.add_assoc]⟩
 ·simp[Q.run]at hq
theorem ZA{d nx:Nat}{s:TypeId}{x:Operand}{x':fM}{f n:Nat}{ag:Bool}{fs:Array Field}{fd:Field}(ho:o.op= .field s x f)(hx:jO x=some x')(hs:P.underlying s=some (.struct fs))(hf:fs[f]? =some fd)(hn:jG P fd.type=some n)(ha:uK P fd.type=some ag)
  (hq:(gA d st.rho (.fld x' fd.offset n ag)).run st.get nx=some (.val v ups)):jr P B st a w β M o v ups:=by
 have vx:=hZ x x' hx
 simp only[gA]at hq
 split at hq
 ·rename_i cs e
  rw[e]at vx
  simp only[fk]at vx
  obtain⟨arr,e1,hl,tj⟩:=vx
  cases hp:Ev.part cs fd.offset n ag with
  |none=>simp[hp,Ev.val,Q.run]at hq
  |some v'=>
   simp[hp,Ev.val,Q.run]at hq;obtain⟨rfl,rfl⟩:=hq
   obtain⟨cv,r1,r2⟩:=FH (P:=P) hn ha hl tj hp
   exact fV h (cv:=cv) (by simp[execOp,ho,e1,Instr.field,run_underlying hs,hf,asAgg,r1]) r2
 ·simp[Q.run]at hq
theorem ZB{d nx:Nat}{t e:TypeId}{x j:Operand}{x' j':fM}{len n:Nat}{ag:Bool}(ho:o.op= .index t x j)(hx:jO x=some x')(hj:jO j=some j')(ht:P.underlying t=some (.array len e))(hn:jG P e=some n)(ha:uK P e=some ag)
  (hq:(gA d st.rho (.ixA x' j' len n ag)).run st.get nx=some (.val v ups)):jr P B st a w β M o v ups:=by
 have vx:=hZ x x' hx
 have vj:=hZ j j' hj
 simp only[gA]at hq
 split at hq
 ·rename_i jn cs e1 e2
  rw[e2]at vx
  simp only[fk]at vx
  obtain⟨arr,e3,hl,tj⟩:=vx
  split at hq
  ·rename_i jm
   cases hp:Ev.part cs (jn*n) n ag with
   |none=>simp[hp,Ev.val,Q.run]at hq
   |some v'=>
    simp[hp,Ev.val,Q.run]at hq;obtain⟨rfl,rfl⟩:=hq
    unfold asNat at e1
    split at e1
    ·rename_i k m em
     split at e1
     ·rename_i hm
      simp at e1;subst e1
      rw[em]at vj
      have ej:=vj.int
      obtain⟨cv,r1,r2⟩:=FH (P:=P) hn ha hl tj hp
      have:0≤m∧m<(len:Int):=by omega
      exact fV h (cv:=cv) (by simp[execOp,ho,e3,ej,Instr.index,run_underlying ht,asIntOf,this,lJ hn,r1]) r2
     ·cases e1
    ·cases e1
  ·simp[Q.run]at hq
 ·simp[Q.run]at hq
omit h hZ in
theorem mU{t:T}{n:Nat}(e:asNat t=some n): ∃k m,t= .i k m∧0≤m∧m.toNat=n:=by
 unfold asNat at e
 split at e
 ·rename_i k m
  split at e
  ·rename_i hm;simp at e;exact⟨k,m,rfl,hm,e⟩
  ·cases e
 ·cases e
theorem ZC{d nx:Nat}{t:TypeId}{x j:Operand}{x' j':fM}(ho:o.op= .index t x j)(hx:jO x=some x')(hj:jO j=some j')(ht:P.underlying t=some .string)
  (hq:(gA d st.rho (.ixS x' j')).run st.get nx=some (.val v ups)):jr P B st a w β M o v ups:=by
 have vx:=hZ x x' hx
 have vj:=hZ j j' hj
 simp only[gA]at hq
 split at hq
 ·rename_i jn bs e1 e2
  rw[e2]at vx
  obtain⟨arr,e3,rfl⟩:=vx.str
  obtain⟨k,m,em,hm,rfl⟩:=mU e1
  rw[em]at vj
  have ej:=vj.int
  split at hq
  ·rename_i c hc
   simp[Q.run]at hq;obtain⟨rfl,rfl⟩:=hq
   unfold ga at hc
   rw[List.getElem?_map,Option.map_eq_some_iff]at hc
   obtain⟨u,hu,rfl⟩:=hc
   have H0:arr[m.toNat]? =some u:=by
    have:arr.data[m.toNat]? =some u:=by simpa using hu
    have jm:=(Array.getElem?_eq_some_iff.1 this).1
    have:arr.data[m.toNat]=u:=(Array.getElem?_eq_some_iff.1 this).2
    show(if h:m.toNat<arr.size then some arr[m.toNat]else none)=some u
    have wh:m.toNat<arr.size:=jm
    rw[dif_pos wh];exact congrArg some this
   exact fV h (cv:= .int .u8 u.toNat) (by simp[execOp,ho,e3,ej,Instr.index,run_underlying ht,asIntOf,hm,H0]) (by simp only[fk])
  ·simp[Q.run]at hq
 ·simp[Q.run]at hq
theorem agw{d nx:Nat}{t e:TypeId}{x j:Operand}{x' j':fM}{n:Nat}(ho:o.op= .indexAddr t x j)(hx:jO x=some x')(hj:jO j=some j')(ht:P.underlying t=some (.slice e))(hn:jG P e=some n)
  (hq:(gA d st.rho (.ia x' j' n)).run st.get nx=some (.val v ups)):jr P B st a w β M o v ups:=by
 have vx:=hZ x x' hx
 have vj:=hZ j j' hj
 have run: ∀(blk off len cap:Nat) k (m:Int),a.eval x= .slice (some ⟨blk,off,none⟩) len cap→a.eval j= .int k m→0≤m→m.toNat<len→(execOp a.eval o).run P w= .ok (.value (.pointer (some ⟨blk,off+m.toNat*n,none⟩))) w:=by
  intro blk off len cap k m e1 e2 h1 h2
  have:0≤m∧m<(len:Int):=by omega
  simp[execOp,ho,e1,e2,Instr.indexAt,run_underlying ht,asIntOf,this,lJ hn,kC]
 simp only[gA]at hq
 split at hq
 ·rename_i jn cs len ex e1 e2
  split at hq
  ·rename_i hc
   simp[Q.run]at hq;obtain⟨rfl,rfl⟩:=hq
   simp at hc
   obtain⟨k,m,em,hm,rfl⟩:=mU e1
   rw[e2]at vx;rw[em]at vj
   simp only[fk,PRel]at vx
   obtain⟨blk,off,cap,sp,e3,h1,h2,h5,h3⟩:=vx
   obtain rfl:sp=none:=h5.resolve_right (by have:=hc.1;omega)
   refine fV h (run _ _ _ _ _ _ e3 vj.int hm hc.1) ?_
   simp only[fk,PRel]
   exact⟨_,_,rfl,fI.drop _ h3 (by have:=hc.2;rw[Nat.add_mul]at this;omega)⟩
  ·simp[Q.run]at hq
 ·rename_i jn sp k g off len sz e1 e2
  split at hq
  ·rename_i hc
   simp[Q.run]at hq;obtain⟨rfl,rfl⟩:=hq
   simp at hc
   obtain⟨kk,m,em,hm,rfl⟩:=mU e1
   rw[e2]at vx;rw[em]at vj
   simp only[fk]at vx
   obtain⟨h1,cap,e3,h2,h3⟩:=vx
   refine fV h (run _ _ _ _ _ _ e3 vj.int hm hc.1) ?_
   simp only[fk]
   exact⟨h1,by rw[Nat.add_assoc]⟩
  ·simp[Q.run]at hq
 ·simp[Q.run]at hq
theorem ZD{d nx:Nat}{t e:TypeId}{x j:Operand}{x' j':fM}{len n:Nat}(ho:o.op= .indexAddr t x j)(hx:jO x=some x')(hj:jO j=some j')(ht:P.underlying t=some (.array len e))(hn:jG P e=some n)
  (hq:(gA d st.rho (.iaA x' j' len n)).run st.get nx=some (.val v ups)):jr P B st a w β M o v ups:=by
 have vx:=hZ x x' hx
 have vj:=hZ j j' hj
 have run: ∀(blk off:Nat) k (m:Int),a.eval x= .pointer (some ⟨blk,off,none⟩)→a.eval j= .int k m→0≤m→m.toNat<len→(execOp a.eval o).run P w= .ok (.value (.pointer (some ⟨blk,off+m.toNat*n,none⟩))) w:=by
  intro blk off k m e1 e2 h1 h2
  have:0≤m∧m<(len:Int):=by omega
  simp[execOp,ho,e1,e2,Instr.indexAt,run_underlying ht,asIntOf,Instr.sureAddr,this,lJ hn,kC]
 simp only[gA]at hq
 split at hq
 ·rename_i jn cs e1 e2
  split at hq
  ·rename_i hc
   simp[Q.run]at hq;obtain⟨rfl,rfl⟩:=hq
   simp at hc
   obtain⟨k,m,em,hm,rfl⟩:=mU e1
   rw[e2]at vx;rw[em]at vj
   simp only[fk,PRel]at vx
   obtain⟨blk,off,e3,h3⟩:=vx
   refine fV h (run _ _ _ _ e3 vj.int hm hc.1) ?_
   simp only[fk,PRel]
   exact⟨_,_,rfl,fI.drop _ h3 (by have:=hc.2;rw[Nat.add_mul]at this;omega)⟩
  ·simp[Q.run]at hq
 ·rename_i jn sp k g off e1 e2
  split at hq
  ·rename_i hc
   simp[Q.run]at hq;obtain⟨rfl,rfl⟩:=hq
   obtain⟨kk,m,em,hm,rfl⟩:=mU e1
   rw[e2]at vx;rw[em]at vj
   simp only[fk]at vx
   refine fV h (run _ _ _ _ vx.2 vj.int hm hc) ?_
   simp only[fk]
   exact⟨vx.1,by rw[Nat.add_assoc]⟩
  ·simp[Q.run]at hq
 ·simp[Q.run]at hq
end
end Go.Ev
namespace Go.Ev
open Go
theorem Am(s:ByteArray)(l h:Nat):ga (s.extract l h)=((ga s).drop l).take (h-l):=by
 unfold ga
 rw[ByteArray.data_extract,Array.toList_extract,List.extract_eq_take_drop,List.map_take,List.map_drop]
theorem js{P:Program}{w:World}{k:IntKind}{m:Int}{y:Nat}{code:BoundsCode}(h1:0≤m)(h2:m.toNat≤y):(Instr.sliceBound (.int k m) y code).run P w= .ok m.toNat w:=by
 have:0≤m∧m≤(y:Int):=by omega
 simp[Instr.sliceBound,asIntOf,this]
section
variable{P:Program}{B:jR}{st:St}{a:Act}{w:World}{β:fS}{M:fE}{o:Oper}{v:T}{ups:List Up}
variable(hZ:py β st.gens w M st.rho a.eval)(h:fY B st w β M)
include hZ in
theorem uu{x:Option Operand}{x':Option fM}{Tk n:Nat}(hx:ti x=some x')(e:iS st.rho Tk x'=some n):
  (x=none∧x'=none∧n=Tk)∨ ∃y k m,x=some y∧a.eval y= .int k m∧0≤m∧m.toNat=n:=by
 cases x with
 |none=>simp[ti]at hx;subst hx;simp[iS]at e;exact .inl ⟨rfl,rfl,e.symm⟩
 |some y=>
  simp only[ti,Option.map_eq_some_iff]at hx
  obtain⟨y',hy,rfl⟩:=hx
  simp only[iS]at e
  obtain⟨k,m,em,hm,hn⟩:=mU e
  have:=hZ y y' hy
  rw[em]at this
  exact .inr ⟨y,k,m,rfl,this.int,hm,hn⟩
include hZ in
theorem ta{lo hi:Option Operand}{Ts Cz:Option fM}{isS:Bool}{len cap l hh:Nat}(h1:ti lo=some Ts)(h2:ti hi=some Cz)(e1:iS st.rho 0 Ts=some l)(e2:iS st.rho len Cz=some hh)
  (hl:l≤hh) (hc:hh≤len) (hlc:len≤cap):(Instr.sliceBounds isS len cap (lo.map a.eval) (hi.map a.eval) none).run P w= .ok (l,hh,cap) w:=by
 unfold Instr.sliceBounds
 rcases uu hZ h1 e1 with⟨rfl,rfl,rfl⟩|⟨y,k,m,rfl,ey,hm,rfl⟩ <;> rcases uu hZ h2 e2 with⟨rfl,rfl,rfl⟩|⟨y2,k2,m2,rfl,ey2,Nu,rfl⟩
 ·simp
 ·simp[ey2,js Nu (Nat.le_trans hc hlc)]
 ·simp[ey,js hm hl]
 ·simp[ey,ey2,js Nu (Nat.le_trans hc hlc),js hm hl]
include hZ h
theorem ZE{d nx:Nat}{t:TypeId}{x:Operand}{x':fM}{lo hi:Option Operand}{Ts Cz:Option fM}(ho:o.op= .slice t x lo hi none)(hx:jO x=some x')(h1:ti lo=some Ts)(h2:ti hi=some Cz)(ht:P.underlying t=some .string)
  (hq:(gA d st.rho (.slS x' Ts Cz)).run st.get nx=some (.val v ups)):jr P B st a w β M o v ups:=by
 have vx:=hZ x x' hx
 simp only[gA]at hq
 split at hq
 ·rename_i bs e
  rw[e]at vx
  obtain⟨s,es,rfl⟩:=vx.str
  split at hq
  ·rename_i l hh e1 e2
   split at hq
   ·rename_i hc
    simp at hc
    simp[Q.run]at hq;obtain⟨rfl,rfl⟩:=hq
    rw[kH]at e2 hc
    have hb:=ta (P:=P) (w:=w) (isS:=false) hZ h1 h2 e1 e2 hc.1 hc.2 (Nat.le_refl _)
    refine fV h (cv:= .string (s.extract l hh)) ?_ (by simp only[fk];exact⟨_,rfl,Am s l hh⟩)
    simp[execOp,ho,es,Instr.sliceAt,run_underlying ht,Instr.slice,hb]
   ·simp[Q.run]at hq
  ·simp[Q.run]at hq
 ·simp[Q.run]at hq
theorem ZF{d nx:Nat}{t e:TypeId}{n:Nat}{x:Operand}{x':fM}{lo hi mx:Option Operand}{Ts Cz mx':Option fM}(ho:o.op= .slice t x lo hi mx)(hx:jO x=some x')(h1:ti lo=some Ts)(h2:ti hi=some Cz)(h3:ti mx=some mx')
  (ht:P.underlying t=some (.slice e)) (hn:jG P e=some n) (h0:n≠0) (ZG:mx.isSome=true→hi.isSome=true)
  (hq:(gA d st.rho (.slV n x' Ts Cz mx')).run st.get nx=some (.val v ups)):jr P B st a w β M o v ups:=by
 have vx:=hZ x x' hx
 simp only[gA]at hq
 cases hlen:qH (st.rho x')with
 |none=>simp[hlen,Q.run]at hq
 |some len=>
  simp only[hlen]at hq
  cases e1:iS st.rho 0 Ts with
  |none=>simp[e1,Q.run]at hq
  |some l=>
   cases e2:iS st.rho len Cz with
   |none=>simp[e1,e2,Q.run]at hq
   |some hh=>
    cases mx with
    |none=>
     simp[ti]at h3;subst h3
     simp only[e1,e2,Q.run_bind]at hq
     have run: ∀(ad:Option Addr) cap,a.eval x= .slice ad len cap→l≤hh→hh≤len→len≤cap→
       (execOp a.eval o).run P w= .ok (.value (.slice (if cap=l then ad else ad.map (·.add (l*n))) (hh-l) (cap-l))) w:=by
      intro ad cap ex OZ SF hl3
      have hb:=ta (P:=P) (w:=w) (isS:=true) hZ h1 h2 e1 e2 OZ SF hl3
      simp[execOp,ho,ex,Instr.sliceAt,run_underlying ht,Instr.slice,hb,lJ hn]
     cases hs:(yq n (st.rho x') l hh).run st.get nx with
     |none=>simp[hs]at hq
     |some v'=>
      simp[hs,Q.run]at hq;obtain⟨rfl,rfl⟩:=hq
      unfold yq at hs
      split at hs
      ·rename_i ex
       split at hs
       ·rename_i hc
        simp[Q.run]at hs;subst hs
        simp at hc;obtain⟨rfl,rfl⟩:=hc
        rw[ex]at vx hlen
        simp[qH]at hlen;subst hlen
        simp only[fk]at vx
        refine fV h (run _ _ vx (Nat.le_refl _) (Nat.le_refl _) (Nat.le_refl _)) ?_
        simp[fk]
       ·simp[Q.run]at hs
      ·rename_i cs LV ex' ex
       rw[ex]at vx hlen
       simp[qH]at hlen;subst hlen
       split at hs
       ·rename_i hc
        simp[Q.run]at hs;subst hs
        simp at hc
        obtain⟨⟨c1,c2⟩,c3⟩:=hc
        simp only[fk,PRel]at vx
        obtain⟨blk,off,cap,sp,e3,p1,p2,p4,p3⟩:=vx
        refine fV h (run _ _ e3 c1 c2 p1) ?_
        simp only[fk,PRel]
        by_cases FL:cap=l
        ·rw[if_pos FL]
         have:hh=l:=by omega
         subst this
         refine⟨blk,off,cap-hh,sp,by simp,by omega,fun hex=>by omega,.inr (by omega), ?_⟩
         simp[fI]
        ·rw[if_neg FL]
         obtain rfl:sp=none:=p4.resolve_right (by omega)
         refine⟨blk,off+l*n,cap-l,none,by simp[kC],by omega,fun hex=> ?_,.inl rfl, ?_⟩
         ·simp at hex
          have:=p2 hex.1
          omega
         ·refine fI.take _ (fI.drop _ p3 ?_)
          rw[c3];exact Nat.mul_le_mul_right n (Nat.le_trans c1 c2)
       ·simp[Q.run]at hs
      ·rename_i sp k g off LV sz ex
       rw[ex]at vx hlen
       simp[qH]at hlen;subst hlen
       split at hs
       ·rename_i hc
        simp[Q.run]at hs;subst hs
        simp at hc
        obtain⟨⟨c1,c2⟩,rfl⟩:=hc
        simp only[fk]at vx
        obtain⟨q1,cap,e3,p1,p2⟩:=vx
        refine fV h (run _ _ e3 c1 c2 p1) ?_
        by_cases hlh:l=hh
        ·subst hlh
         rw[if_pos rfl]
         simp only[fk,PRel]
         by_cases FL:cap=l
         ·rw[if_pos FL]
          exact⟨(β sp k g).blk,(β sp k g).off+off,cap-l,none,by simp,by omega,(fun e=>by cases e),.inl rfl,by simp[fI]⟩
         ·rw[if_neg FL]
          exact⟨(β sp k g).blk,(β sp k g).off+off+l*sz,cap-l,none,by simp[kC],by omega,(fun e=>by cases e),.inl rfl,by simp[fI]⟩
        ·rw[if_neg hlh,if_neg (by omega)]
         simp only[fk]
         refine⟨q1,cap-l,by simp[kC,Nat.add_assoc],by omega, ?_⟩
         have:(cap-l)*sz+l*sz=cap*sz:=by rw[←Nat.add_mul];congr 1;omega
         omega
       ·simp[Q.run]at hs
      ·simp[Q.run]at hs
    |some m=>
     simp only[ti,Option.map_eq_some_iff]at h3
     obtain⟨m',ZH,rfl⟩:=h3
     have vm:=hZ m m' ZH
     have run: ∀(ad:Option Addr) cap,a.eval x= .slice ad len cap→ ∀k (z:Int),a.eval m= .int k z→z=0→l=0→hh=0→
       (execOp a.eval o).run P w= .ok (.value (.slice ad 0 0)) w:=by
      intro ad cap ex k z em hz hl0 hh0
      subst hz;subst hl0;subst hh0
      have hb:(Instr.sliceBounds true len cap (lo.map a.eval) (hi.map a.eval) (some (.int k 0))).run P w= .ok (0,0,0) w:=by
       unfold Instr.sliceBounds
       rcases uu hZ h2 e2 with⟨rfl,rfl,hx0⟩|⟨y2,k2,m2,rfl,ey2,Nu,hz2⟩
       ·simp at ZG
       ·have b1:=js (P:=P) (w:=w) (k:=k) (m:=0) (y:=cap) (code:= .slice3Acap) (by omega) (by simp)
        have b2:=js (P:=P) (w:=w) (k:=k2) (m:=m2) (y:=0) (code:= .slice3B) Nu (by omega)
        rcases uu hZ h1 e1 with⟨rfl,rfl,_⟩|⟨y,k1,m1,rfl,ey,hm,hz1⟩
        ·simp[ey2,b1,b2];omega
        ·have b3:=js (P:=P) (w:=w) (k:=k1) (m:=m1) (y:=m2.toNat) (code:= .slice3C) hm (by omega)
         simp[ey2,ey,b1,b2,b3];omega
      cases ad <;> simp[execOp,ho,ex,em,Instr.sliceAt,run_underlying ht,Instr.slice,hb,lJ hn]
     simp only[e1,e2]at hq
     cases em:asNat (st.rho m')with
     |none=>simp[em,Q.run]at hq
     |some z=>
      obtain⟨km,zm,ez,hz1,hz2⟩:=mU em
      rw[ez]at vm
      have vm':=vm.int
      split at hq
      ·rename_i ZI ex
       rw[em]at ZI
       simp at ZI;subst ZI
       rw[ex]at vx hlen
       simp only[fk]at vx
       simp[qH]at hlen
       split at hq
       ·rename_i hc
        simp at hc
        simp[Q.run]at hq;obtain⟨rfl,rfl⟩:=hq
        exact fV h (run _ _ (by rw[vx,hlen]) km zm vm' (by omega) hc.1 hc.2) (by simp only[fk])
       ·simp[Q.run]at hq
      ·rename_i ZI jC
       rw[em]at ZI
       simp at ZI;subst ZI
       split at hq
       ·rename_i hc
        simp at hc
        simp[Q.run]at hq;obtain⟨rfl,rfl⟩:=hq
        have: ∃blk off cap sp,a.eval x= .slice (some ⟨blk,off,sp⟩) len cap:=by
         generalize st.rho x'=tx at*
         cases tx <;> simp[qH]at hlen
         case nilsl=>exact absurd rfl jC
         case sl cs LV ex=>
          subst hlen
          simp only[fk,PRel]at vx
          obtain⟨blk,off,cap,sp,e3,_⟩:=vx
          exact⟨blk,off,cap,sp,e3⟩
         case isl sp k g off LV sz=>
          subst hlen
          simp only[fk]at vx
          obtain⟨_,cap,e3,_⟩:=vx
          exact⟨_,_,cap,none,e3⟩
        obtain⟨blk,off,cap,sp,e3⟩:=this
        refine fV h (run _ _ e3 km zm vm' (by omega) hc.1 hc.2) ?_
        simp only[fk,PRel]
        exact⟨blk,off,0,sp,rfl,Nat.le_refl _,fun _=>rfl,.inr rfl,by simp[fI]⟩
       ·simp[Q.run]at hq
      ·simp[Q.run]at hq
end
end Go.Ev
namespace Go.Ev
open Go
section
variable{P:Program}{B:jR}{st:St}{a:Act}{w:World}{β:fS}{M:fE}{o:Oper}{v:T}{ups:List Up}
theorem H2{isMax:Bool}{x y:T}{ys:List T}{r:T}(h:mN isMax x (y::ys)=some r): ∃k n,x= .i k n:=by
 unfold mN at h
 split at h
 ·simp at*
 ·exact⟨_,_,rfl⟩
 ·cases h
theorem jg{c:Call}{b:Builtin}(ho:o.op= .call c)(hb:c.callee= .builtin b):
  (execOp a.eval o).run P w=(builtin b c.argTypes o.type (c.args.map fun| .const _=>true|_=>false) (c.args.map a.eval)).run P w:=by
 simp only[execOp,ho,resolve,hb,Sem.run_bind]
 rfl
theorem wi{args:Array Operand}{x:Operand}(h:args.toList= [x])(f:Operand→Value):args.map f= #[f x]:=by
 apply Array.ext';simp[h]
theorem Tu{args:Array Operand}{x y:Operand}(h:args.toList= [x,y])(f:Operand→Value):args.map f= #[f x,f y]:=by
 apply Array.ext';simp[h]
variable(hZ:py β st.gens w M st.rho a.eval)(h:fY B st w β M)
include hZ h
theorem Tv{d nx:Nat}{c:Call}{t:TypeId}{x:Operand}{x':fM}(ho:o.op= .call c)(hb:c.callee= .builtin .len)(ht:c.argTypes[0]? =some t)(ha:c.args.toList= [x])(hu:P.underlying t=some .string)(hx:jO x=some x')
  (hq:(gA d st.rho (.lenS x')).run st.get nx=some (.val v ups)):jr P B st a w β M o v ups:=by
 have vx:=hZ x x' hx
 simp only[gA]at hq
 split at hq
 ·rename_i bs e
  simp[Q.run]at hq;obtain⟨rfl,rfl⟩:=hq
  rw[e]at vx
  obtain⟨s,es,rfl⟩:=vx.str
  refine fV h (cv:= .int .i64 s.size) ?_ (by simp only[fk,kH])
  rw[jg ho hb,wi ha]
  simp[builtin,Builtin.len_,ht,es,run_underlying hu,goInt]
 ·simp[Q.run]at hq
theorem Tw{d nx:Nat}{c:Call}{t e:TypeId}{x:Operand}{x':fM}(ho:o.op= .call c)(hb:c.callee= .builtin .len)(ht:c.argTypes[0]? =some t)(ha:c.args.toList= [x])(hu:P.underlying t=some (.slice e))(hx:jO x=some x')
  (hq:(gA d st.rho (.lenV x')).run st.get nx=some (.val v ups)):jr P B st a w β M o v ups:=by
 have vx:=hZ x x' hx
 simp only[gA]at hq
 cases hl:qH (st.rho x')with
 |none=>simp[hl,Ev.val,Q.run]at hq
 |some n=>
  simp[hl,Ev.val,Q.run]at hq;obtain⟨rfl,rfl⟩:=hq
  have: ∃ad cap,a.eval x= .slice ad n cap:=by
   generalize st.rho x'=tx at*
   cases tx <;> simp[qH]at hl
   case nilsl=>subst hl;simp only[fk]at vx;exact⟨_,_,vx⟩
   case sl cs LV ex=>subst hl;simp only[fk,PRel]at vx;obtain⟨blk,off,cap,sp,e3,_⟩:=vx;exact⟨_,cap,e3⟩
   case isl sp k g off LV sz=>subst hl;simp only[fk]at vx;obtain⟨_,cap,e3,_⟩:=vx;exact⟨_,cap,e3⟩
  obtain⟨ad,cap,e1⟩:=this
  refine fV h (cv:= .int .i64 n) ?_ (by simp only[fk])
  rw[jg ho hb,wi ha]
  simp[builtin,Builtin.len_,ht,e1,run_underlying hu,goInt]
theorem Tx{d nx:Nat}{c:Call}{t kt et:TypeId}{x:Operand}{x':fM}(ho:o.op= .call c)(hb:c.callee= .builtin .len)(ht:c.argTypes[0]? =some t)(ha:c.args.toList= [x])(hu:P.underlying t=some (.map kt et))(hx:jO x=some x')
  (hq:(gA d st.rho (.lenM x')).run st.get nx=some (.val v ups)):jr P B st a w β M o v ups:=by
 have vx:=hZ x x' hx
 have run: ∀blk es clock,a.eval x= .map (some blk)→w.heap[blk]? =some (.map es clock)→(execOp a.eval o).run P w= .ok (.value (.int .i64 es.size)) w:=by
  intro blk es clock e1 e2
  rw[jg ho hb,wi ha]
  simp[builtin,Builtin.len_,ht,e1,run_underlying hu,goInt,getObj,Sem.run,e2]
 simp only[gA]at hq
 split at hq
 ·rename_i e
  simp[Q.run]at hq;obtain⟨rfl,rfl⟩:=hq
  rw[e]at vx;simp only[fk]at vx
  refine fV h (cv:= .int .i64 0) ?_ (by simp only[fk])
  rw[jg ho hb,wi ha]
  simp[builtin,Builtin.len_,ht,vx,run_underlying hu,goInt]
 ·rename_i ks vs e
  simp[Q.run]at hq;obtain⟨rfl,rfl⟩:=hq
  rw[e]at vx;simp only[fk,PRel]at vx
  obtain⟨blk,es,clock,e1,e2,_,_,e3,_⟩:=vx
  refine fV h (run blk es clock e1 e2) ?_
  simp only[fk]
  have:=PList.length _ _ e3
  simp at this;rw[this]
 ·rename_i sp k g e
  simp only[Q.run]at hq
  split at hq
  ·rename_i hg
   have An:=h.obj sp k
   generalize he:st.get sp k=en at*
   obtain⟨ge,ob⟩:=en
   dsimp only at hg;subst hg
   cases ob with
   |none=>simp[Q.run]at hq
   |cells _ _ _=>simp[Q.run]at hq
   |map ks vs f=>
    simp[Q.run]at hq;obtain⟨rfl,rfl⟩:=hq
    rw[e]at vx;simp only[fk]at vx
    unfold jf at An
    obtain⟨es,clock,e2,_,e3,_⟩:=An
    refine fV h (run _ es clock vx.2 e2) ?_
    simp only[fk]
    have:=PList.length _ _ e3
    simp at this;rw[this]
  ·simp[Q.run]at hq
 ·simp[Q.run]at hq
omit hZ in
theorem Ty{c:Call}{t e:TypeId}{n:Nat}{x:Operand}(ho:o.op= .call c)(hb:c.callee= .builtin .len)(ht:c.argTypes[0]? =some t)(ha:c.args.toList= [x])(hu:P.underlying t=some (.array n e)):
  jr P B st a w β M o (.i .i64 n) []:=by
 refine fV h (cv:= .int .i64 n) ?_ (by simp only[fk])
 rw[jg ho hb,wi ha]
 simp[builtin,Builtin.len_,ht,run_underlying hu,goInt]
omit hZ h in
theorem J2{k:IntKind}: ∀(rest:List T) (vs:List Value) (x:Int) (r:T),fo β st.gens w M rest vs→mN false (.i k x) rest=some r→ ∃n,r= .i k n∧(vs.foldlM Builtin.min2 (.int k x)).run P w= .ok (.int k n) w
 | [],vs,x,r,hl,hm=>by
   simp only[fo]at hl;subst hl
   simp[mN]at hm;subst hm
   exact⟨x,rfl,by simp⟩
 |t::ts,vs,x,r,hl,hm=>by
  simp only[fo]at hl
  obtain⟨u,us,rfl,h1,h2⟩:=hl
  cases t <;> simp only[mN]at hm <;> try (cases hm;done)
  rename_i k' y
  split at hm
  ·rename_i hk;subst hk
   have:=h1.int;subst this
   obtain⟨n,e1,e2⟩:=J2 ts us _ r h2 hm
   refine⟨n,e1, ?_⟩
   simp only[List.foldlM_cons,Sem.run_bind,Builtin.min2,Sem.run_pure,Result.andThen_ok]
   simpa using e2
  ·cases hm
omit hZ h in
theorem J3{k:IntKind}: ∀(rest:List T) (vs:List Value) (x:Int) (r:T),fo β st.gens w M rest vs→mN true (.i k x) rest=some r→ ∃n,r= .i k n∧(vs.foldlM Builtin.max2 (.int k x)).run P w= .ok (.int k n) w
 | [],vs,x,r,hl,hm=>by
   simp only[fo]at hl;subst hl
   simp[mN]at hm;subst hm
   exact⟨x,rfl,by simp⟩
 |t::ts,vs,x,r,hl,hm=>by
  simp only[fo]at hl
  obtain⟨u,us,rfl,h1,h2⟩:=hl
  cases t <;> simp only[mN]at hm <;> try (cases hm;done)
  rename_i k' y
  split at hm
  ·rename_i hk;subst hk
   have:=h1.int;subst this
   obtain⟨n,e1,e2⟩:=J3 ts us _ r h2 hm
   refine⟨n,e1, ?_⟩
   simp only[List.foldlM_cons,Sem.run_bind,Builtin.max2,Sem.run_pure,Result.andThen_ok]
   simpa using e2
  ·cases hm
theorem XY{d nx:Nat}{isMax:Bool}{c:Call}{as:List fM}(ho:o.op= .call c)(hb:c.callee= .builtin (if isMax then .max else .min))(ha:xH c.args.toList=some as)
  (hq:(gA d st.rho (.mm isMax as)).run st.get nx=some (.val v ups)):jr P B st a w β M o v ups:=by
 have hl:=ur hZ ha
 simp only[gA]at hq
 split at hq
 ·rename_i x rest e
  cases hm:mN isMax x rest with
  |none=>simp[hm,Ev.val,Q.run]at hq
  |some r=>
   simp[hm,Ev.val,Q.run]at hq;obtain⟨rfl,rfl⟩:=hq
   rw[e]at hl
   simp only[fo]at hl
   obtain⟨u,us,e2,h1,h2⟩:=hl
   cases rest with
   |nil=>
    simp[mN]at hm;subst hm
    simp only[fo]at h2;subst h2
    refine fV h (cv:=u) ?_ h1
    rw[jg ho hb]
    cases isMax <;> simp[builtin,Builtin.min_,Builtin.max_,e2]
   |cons y ys=>
    obtain⟨k,xn,rfl⟩:=H2 hm
    have:=h1.int;subst this
    cases isMax with
    |false=>
     obtain⟨n,e3,e4⟩:=J2 (P:=P) (y::ys) us xn r h2 hm
     subst e3
     refine fV h (cv:= .int k n) ?_ (by simp only[fk])
     rw[jg ho hb]
     simp[builtin,Builtin.min_,e2,e4]
    |true=>
     obtain⟨n,e3,e4⟩:=J3 (P:=P) (y::ys) us xn r h2 hm
     subst e3
     refine fV h (cv:= .int k n) ?_ (by simp only[fk])
     rw[jg ho hb]
     simp[builtin,Builtin.max_,e2,e4]
 ·simp[Q.run]at hq
end
theorem tG{P:Program}{t:TypeId}{k:CK}(h:yW P t=some k):match k with| .int=> ∃ik,P.underlying t=some (.int ik)| .str=>P.underlying t=some .string| .bool=>P.underlying t=some .bool:=by
 unfold yW at h
 split at h <;> simp at h <;> subst h
 ·rename_i ik e;exact⟨ik,e⟩
 ·rename_i e;exact e
 ·rename_i e;exact e
theorem Ao{P:Program}{β:fS}{G:Sp→Nat→Nat}{w:World}{M:fE}{t:TypeId}{k:CK}{x y:T}{cx cy:Value}{r:Bool}(d:Nat)(hk:yW P t=some k)(hx:fk β G w M x cx)(hy:fk β G w M y cy)(h:jD k x y=some r):
  (Op.equalIn (d+1) t cx cy).run P w= .ok r w:=by
 have hu:=tG hk
 unfold jD at h
 split at h
 ·simp at h;subst h
  rw[hx.bool,hy.bool]
  exact run_equalIn_bool' w d t _ _ hu
 ·split at h
  ·rename_i e;subst e
   simp at h;subst h
   obtain⟨ik,hu⟩:=hu
   rw[hx.int,hy.int]
   exact run_equalIn_int w d t _ ik _ _ hu
  ·cases h
 ·simp at h;subst h
  obtain⟨bx,e1,rfl⟩:=hx.str
  obtain⟨bY,e2,rfl⟩:=hy.str
  rw[e1,e2,run_equalIn_string w d t _ _ hu,ig,ig,lr]
 ·cases h
theorem wj{P:Program}{β:fS}{G:Sp→Nat→Nat}{w:World}{M:fE}(d:Nat){xa ya:Array Value}{xs ys:List T}(hx:fo β G w M xs xa.toList)(hy:fo β G w M ys ya.toList):
  ∀(fs:List Field) (i:Nat) (ks:List CK) (r:Bool),oH P i fs=some ks→iq ks (xs.drop i) (ys.drop i)=some r→(Op.eqFields (d+1) xa ya fs).run P w= .ok r w
 | [],i,ks,r,hk,he=>by
   simp[oH]at hk;subst hk
   generalize xs.drop i=xd at he
   generalize ys.drop i=yd at he
   cases xd <;> cases yd <;> simp[iq]at he
   subst he;simp[Op.eqFields]
 |f::fs,i,ks,r,hk,he=>by
  simp only[oH]at hk
  split at hk
  ·rename_i hc
   simp at hc
   obtain⟨⟨c1,c2⟩,c3⟩:=hc
   split at hk
   ·rename_i k XZ h1 h2
    simp at hk;subst hk
    cases ZJ:xs.drop i with
    |nil=>rw[ZJ]at he;cases ys.drop i <;> simp[iq]at he
    |cons x xr=>
     cases SG:ys.drop i with
     |nil=>rw[ZJ,SG]at he;simp[iq]at he
     |cons y yr=>
      rw[ZJ,SG]at he
      simp only[iq]at he
      have gx:xs[i]? =some x:=by have:=congrArg (·[0]?) ZJ;simpa using this
      have gy:ys[i]? =some y:=by have:=congrArg (·[0]?) SG;simpa using this
      obtain⟨cx,ax,vx⟩:=hx.get gx
      obtain⟨cy,ay,vy⟩:=hy.get gy
      have agg:uK P f.type=some false:=by
       have:=tG h1
       unfold uK
       cases k
       ·obtain⟨ik,e⟩:=this;simp[e]
       ·simp[this]
       ·simp[this]
      have FM:(Go.part f.type xa f.offset).run P w= .ok cx w:=by
       unfold Go.part;simp only[Sem.run_bind,tF agg,Result.andThen_ok]
       have:xa[i]? =some cx:=by simpa using ax
       simp[c1,this]
      have hny:(Go.part f.type ya f.offset).run P w= .ok cy w:=by
       unfold Go.part;simp only[Sem.run_bind,tF agg,Result.andThen_ok]
       have:ya[i]? =some cy:=by simpa using ay
       simp[c1,this]
      have hxd:xs.drop (i+1)=xr:=by rw[←List.drop_drop,ZJ];rfl
      have hyd:ys.drop (i+1)=yr:=by rw[←List.drop_drop,SG];rfl
      simp only[Op.eqFields,if_pos (show f.name≠ "_" from c2),Sem.run_bind,FM,hny,Result.andThen_ok]
      cases hc:jD k x y with
      |none=>simp[hc]at he
      |some b=>
       rw[Ao d h1 vx vy hc]
       cases b with
       |false=>simp[hc]at he;subst he;simp
       |true=>
        simp only[hc]at he
        simp only[Result.andThen_ok,Bool.not_true,Bool.false_eq_true,if_false]
        exact wj d hx hy fs (i+1) XZ r h2 (by rw[hxd,hyd];exact he)
   ·cases hk
  ·cases hk
theorem oJ{P:Program}{t:TypeId}{k:EK}(h:Af P t=some k):match k with
  | .one c=>yW P t=some c
  | .flat ks=> ∃fs,P.underlying t=some (.struct fs)∧P.eqGuardType P.depth t=false∧P.stoodInHeld t=false∧oH P 0 fs.toList=some ks
  | .sl=> ∃e,P.underlying t=some (.slice e)
  | .ptr=> ∃e,P.underlying t=some (.pointer e)
  | .map=> ∃a b,P.underlying t=some (.map a b):=by
 unfold Af at h
 split at h
 ·simp at h;subst h;rename_i e;simp[yW,e]
 ·simp at h;subst h;rename_i e;simp[yW,e]
 ·simp at h;subst h;rename_i e;simp[yW,e]
 ·simp at h;subst h;rename_i x e;exact⟨x,e⟩
 ·simp at h;subst h;rename_i x e;exact⟨x,e⟩
 ·simp at h;subst h;rename_i x y e;exact⟨x,y,e⟩
 ·rename_i fs e
  split at h
  ·rename_i hc
   simp only[Option.map_eq_some_iff]at h
   obtain⟨ks,h1,rfl⟩:=h
   simp at hc
   exact⟨fs,e,hc.1,hc.2,h1⟩
  ·cases h
 ·cases h
theorem yX{P:Program}(w:World)(d:Nat)(t e:TypeId)(p:Option Addr)(h:P.underlying t=some (.pointer e)):(Op.equalIn (d+1) t (.pointer p) (.pointer none)).run P w= .ok p.isNone w:=by
 cases p <;> simp[Op.equalIn,run_underlying h]
theorem rk{P:Program}(w:World)(t e:TypeId)(p:Option Addr)(h:P.underlying t=some (.pointer e)):(Op.equal t (.pointer p) (.pointer none)).run P w= .ok p.isNone w:=yX w 9999 t e p h
theorem J4{P:Program}{β:fS}{G:Sp→Nat→Nat}{w:World}{M:fE}{t:TypeId}{k:EK}{x y:T}{cx cy:Value}{r:Bool}(hk:Af P t=some k)(hx:fk β G w M x cx)(hy:fk β G w M y cy)(h:tB k x y=some r):
  (Op.equal t cx cy).run P w= .ok r w:=by
 have hu:=oJ hk
 unfold tB at h
 split at h
 ·exact Ao 9999 hu hx hy h
 ·rename_i ks xs ys
  obtain⟨fs,u1,u2,u3,u4⟩:=hu
  simp only[fk]at hx hy
  obtain⟨xa,rfl,lx,_⟩:=hx
  obtain⟨ya,rfl,ly,_⟩:=hy
  have hf:P.fieldsOf t=fs:=by simp[Program.fieldsOf,u1]
  have:=run_equalIn_struct w 9999 t xa ya (by rw[hf];exact u1) u3
  rw[hf]at this
  exact this.trans (wj 9998 lx ly _ 0 ks r u4 (by simpa using h))
 ·simp at h;subst h
  obtain⟨e,hu⟩:=hu
  simp only[fk]at hx hy;subst hx;subst hy
  exact run_equal_slice_nil w t e _ _ _ hu
 ·simp at h;subst h
  obtain⟨e,hu⟩:=hu
  simp only[fk,PRel]at hx hy
  obtain⟨_,_,_,_,rfl,_⟩:=hx;subst hy
  exact run_equal_slice_nil w t e _ _ _ hu
 ·simp at h;subst h
  obtain⟨e,hu⟩:=hu
  simp only[fk]at hx hy
  obtain⟨_,_,rfl,_⟩:=hx;subst hy
  exact run_equal_slice_nil w t e _ _ _ hu
 ·simp at h;subst h
  obtain⟨e,hu⟩:=hu
  simp only[fk]at hx hy;subst hx;subst hy
  exact rk w t e _ hu
 ·simp at h;subst h
  obtain⟨e,hu⟩:=hu
  simp only[fk,PRel]at hx hy
  obtain⟨_,_,rfl,_⟩:=hx;subst hy
  exact rk w t e _ hu
 ·simp at h;subst h
  obtain⟨e,hu⟩:=hu
  simp only[fk]at hx hy
  obtain⟨_,rfl⟩:=hx;subst hy
  exact rk w t e _ hu
 ·simp at h;subst h
  obtain⟨e,e',hu⟩:=hu
  simp only[fk]at hx hy;subst hx;subst hy
  exact run_equal_map_nil w t e e' _ hu
 ·simp at h;subst h
  obtain⟨e,e',hu⟩:=hu
  simp only[fk,PRel]at hx hy
  obtain⟨_,_,_,rfl,_⟩:=hx;subst hy
  exact run_equal_map_nil w t e e' _ hu
 ·simp at h;subst h
  obtain⟨e,e',hu⟩:=hu
  simp only[fk]at hx hy
  obtain⟨_,rfl⟩:=hx;subst hy
  exact run_equal_map_nil w t e e' _ hu
 ·cases h
end Go.Ev
namespace Go.Ev
open Go
section
variable{P:Program}{B:jR}{st:St}{a:Act}{w:World}{β:fS}{M:fE}{o:Oper}{v:T}{ups:List Up}
variable(hZ:py β st.gens w M st.rho a.eval)(h:fY B st w β M)
include hZ h in
theorem J5{neg:Bool}{k:EK}{t t':TypeId}{x y:Operand}{x' y':fM}(ho:o.op= .binOp (if neg then .neq else .eql) t x y t')(hx:jO x=some x')(hy:jO y=some y')(hk:Af P t=some k)(hn:k≠ .one .int∧k≠ .one .str){r:Bool}
  (hq:tB k (st.rho x') (st.rho y')=some r):jr P B st a w β M o (.b (r != neg)) []:=by
 have vx:=hZ x x' hx
 have vy:=hZ y y' hy
 have he:=J4 (P:=P) hk vx vy hq
 have hu:=oJ hk
 refine fV h (cv:= .bool (r != neg)) ?_ (by simp only[fk])
 generalize st.rho x'=tx at*
 generalize st.rho y'=ty at*
 have fin: ∀cx cy,a.eval x=cx→a.eval y=cy→(eqGuard (if neg then .neq else .eql) t x y cx cy).run P w= .ok () w→
   ((binOp .eql t cx cy)=(do pure (.bool (←Op.equal t cx cy))))→((binOp .neq t cx cy)=(do pure (.bool (!(←Op.equal t cx cy)))))→(execOp a.eval o).run P w= .ok (.value (.bool (r != neg))) w:=by
  intro cx cy e1 e2 e3 e4 e5
  rw[e1,e2]at he
  cases neg
  ·simp at e3
   simp[execOp,ho,e1,e2,e3,e4,he]
  ·simp at e3
   simp[execOp,ho,e1,e2,e3,e5,he]
 have g0: ∀cx cy,(∀z,cx≠ .agg z)→cx≠ .nilIface→(eqGuard (if neg then .neq else .eql) t x y cx cy).run P w= .ok () w:=by
  intro cx cy h1 h2
  cases neg <;> cases cx <;> simp[eqGuard]at*
 unfold tB at hq
 split at hq
 ·rename_i c
  unfold jD at hq
  split at hq
  ·exact fin _ _ vx.bool vy.bool (g0 _ _ (by simp) (by simp)) rfl rfl
  ·exact absurd rfl hn.1
  ·exact absurd rfl hn.2
  ·cases hq
 ·obtain⟨fs,u1,u2,u3,u4⟩:=hu
  simp only[fk]at vx vy
  obtain⟨xa,e1,_⟩:=vx
  obtain⟨ya,e2,_⟩:=vy
  exact fin _ _ e1 e2 (run_eqGuard_agg w _ t x y xa ya u2) rfl rfl
 ·simp only[fk]at vx vy
  exact fin _ _ vx vy (g0 _ _ (by simp) (by simp)) rfl rfl
 ·simp only[fk,PRel]at vx vy
  obtain⟨_,_,_,_,e1,_⟩:=vx
  exact fin _ _ e1 vy (g0 _ _ (by simp) (by simp)) rfl rfl
 ·simp only[fk]at vx vy
  obtain⟨_,_,e1,_⟩:=vx
  exact fin _ _ e1 vy (g0 _ _ (by simp) (by simp)) rfl rfl
 ·simp only[fk]at vx vy
  exact fin _ _ vx vy (g0 _ _ (by simp) (by simp)) rfl rfl
 ·simp only[fk,PRel]at vx vy
  obtain⟨_,_,e1,_⟩:=vx
  exact fin _ _ e1 vy (g0 _ _ (by simp) (by simp)) rfl rfl
 ·simp only[fk]at vx vy
  exact fin _ _ vx.2 vy (g0 _ _ (by simp) (by simp)) rfl rfl
 ·simp only[fk]at vx vy
  exact fin _ _ vx vy (g0 _ _ (by simp) (by simp)) rfl rfl
 ·simp only[fk,PRel]at vx vy
  obtain⟨_,_,_,e1,_⟩:=vx
  exact fin _ _ e1 vy (g0 _ _ (by simp) (by simp)) rfl rfl
 ·simp only[fk]at vx vy
  exact fin _ _ vx.2 vy (g0 _ _ (by simp) (by simp)) rfl rfl
 ·cases hq
end
theorem H3{P:Program}{β:fS}{G:Sp→Nat→Nat}{w:World}{M:fE}{t:TypeId}{c:CK}{kd:TypeDesc}{k x:T}{kv xv:Value}{b:Bool}(hc:yW P t=some c)(hu:P.underlying t=some kd)(hk:fk β G w M k kv)(hx:fk β G w M x xv)(h:jD c k x=some b):
  Instr.sameNow kd kv xv=some b:=by
 have H0:=tG hc
 unfold jD at h
 split at h
 ·simp at h;subst h
  rw[hk.bool,hx.bool]
  simp only at H0
  rw[hu]at H0;simp at H0;subst H0
  rfl
 ·split at h
  ·rename_i e;subst e
   simp at h;subst h
   obtain⟨ik,H0⟩:=H0
   rw[hu]at H0;simp at H0;subst H0
   rw[hk.int,hx.int];simp[Instr.sameNow]
  ·cases h
 ·simp at h;subst h
  simp only at H0
  rw[hu]at H0;simp at H0;subst H0
  obtain⟨b1,e1,rfl⟩:=hk.str
  obtain⟨b2,e2,rfl⟩:=hx.str
  rw[e1,e2]
  simp[Instr.sameNow,beq_toListBytes,ig,lr]
 ·cases h
def Found(es:List MapEntry)(off:Nat)(r:Option Nat)(res:Option (Nat×Value)):Prop:=
 match r with
 |none=>res=none
 |some i=> ∃e,es[i]? =some e∧res=some (off+i,e.val)
theorem Aq{P:Program}{β:fS}{G:Sp→Nat→Nat}{w:World}{M:fE}{t:TypeId}{c:CK}{kd:TypeDesc}{k:T}{kv:Value}(hc:yW P t=some c)(hu:P.underlying t=some kd)(hk:fk β G w M k kv):
  ∀(es:List MapEntry) (ks:List T) (off:Nat) (r:Option Nat),PList w M ks (es.map (·.key))→kB (.one c) k ks=some r→ ∃res,Instr.findNow kd kv es off=some res∧Found es off r res
 | [],ks,off,r,hl,hf=>by
   cases ks with
   |nil=>simp[kB]at hf;subst hf;exact⟨none,rfl,rfl⟩
   |cons x xs=>simp[PList]at hl
 |e::es,ks,off,r,hl,hf=>by
  cases ks with
  |nil=>simp[PList]at hl
  |cons x xs=>
   simp only[List.map_cons,PList,List.cons.injEq]at hl
   obtain⟨u,us,⟨rfl,rfl⟩,h1,h2⟩:=hl
   simp only[kB,tB]at hf
   cases hb:jD c k x with
   |none=>simp[hb]at hf
   |some b=>
    have hs:=H3 hc hu hk (PRel.toV β G _ _ h1) hb
    cases b with
    |true=>
     simp[hb]at hf;subst hf
     exact⟨some (off,e.val),by simp[Instr.findNow,hs],e,rfl,rfl⟩
    |false=>
     simp only[hb,Option.map_eq_some_iff]at hf
     obtain⟨r',h3,rfl⟩:=hf
     obtain⟨res,e1,e2⟩:=Aq hc hu hk es xs (off+1) r' h2 h3
     refine⟨res,by simp[Instr.findNow,hs,e1], ?_⟩
     cases r' with
     |none=>exact e2
     |some i=>
      obtain⟨e',a1,a2⟩:=e2
      exact⟨e',by simpa using a1,by rw[a2];simp;omega⟩
theorem uS{P:Program}{β:fS}{G:Sp→Nat→Nat}{w:World}{M:fE}{t:TypeId}{ek:EK}{k:T}{kv:Value}(hc:Af P t=some ek)(hk:fk β G w M k kv):
  ∀(es:List MapEntry) (ks:List T) (off:Nat) (r:Option Nat),PList w M ks (es.map (·.key))→kB ek k ks=some r→ ∃res,(Instr.findAsking t kv es off).run P w= .ok res w∧Found es off r res
 | [],ks,off,r,hl,hf=>by
   cases ks with
   |nil=>simp[kB]at hf;subst hf;exact⟨none,by simp[Instr.findAsking],rfl⟩
   |cons x xs=>simp[PList]at hl
 |e::es,ks,off,r,hl,hf=>by
  cases ks with
  |nil=>simp[PList]at hl
  |cons x xs=>
   simp only[List.map_cons,PList,List.cons.injEq]at hl
   obtain⟨u,us,⟨rfl,rfl⟩,h1,h2⟩:=hl
   simp only[kB]at hf
   cases hb:tB ek k x with
   |none=>simp[hb]at hf
   |some b=>
    have hs:=J4 (P:=P) hc hk (PRel.toV β G _ _ h1) hb
    cases b with
    |true=>
     simp[hb]at hf;subst hf
     exact⟨some (off,e.val),by simp[Instr.findAsking,hs],e,rfl,rfl⟩
    |false=>
     simp only[hb,Option.map_eq_some_iff]at hf
     obtain⟨r',h3,rfl⟩:=hf
     obtain⟨res,e1,e2⟩:=uS hc hk es xs (off+1) r' h2 h3
     refine⟨res,by simp[Instr.findAsking,hs,e1], ?_⟩
     cases r' with
     |none=>exact e2
     |some i=>
      obtain⟨e',a1,a2⟩:=e2
      exact⟨e',by simpa using a1,by rw[a2];simp;omega⟩
theorem H4{P:Program}{t:TypeId}{ek:EK}(h:keyOf P t=some ek):Af P t=some ek∧((∃c,ek= .one c)∨ ∃ks,ek= .flat ks):=by
 unfold keyOf at h
 split at h
 ·rename_i c e;simp at h;subst h;exact⟨e,.inl ⟨c,rfl⟩⟩
 ·rename_i c e;simp at h;subst h;exact⟨e,.inr ⟨c,rfl⟩⟩
 ·cases h
theorem sx{P:Program}{β:fS}{G:Sp→Nat→Nat}{w:World}{M:fE}{t:TypeId}{ek:EK}{k:T}{kv:Value}(hc:keyOf P t=some ek)(hk:fk β G w M k kv)(es:List MapEntry)(ks:List T)(r:Option Nat)(hl:PList w M ks (es.map (·.key)))
  (hf:kB ek k ks=some r): ∃res,(Instr.findKey t kv es).run P w= .ok res w∧Found es 0 r res:=by
 obtain⟨he,qM⟩:=H4 hc
 unfold Instr.findKey
 rcases qM with⟨c,rfl⟩|⟨ck,rfl⟩
 ·have SI:=oJ he
  simp only at SI
  have: ∃kd,P.underlying t=some kd:=by
   have:=tG SI
   cases c
   ·obtain⟨ik,e⟩:=this;exact⟨_,e⟩
   ·exact⟨_,this⟩
   ·exact⟨_,this⟩
  obtain⟨kd,hu⟩:=this
  obtain⟨res,e1,e2⟩:=Aq SI hu hk es ks 0 r hl hf
  exact⟨res,by simp[run_underlying hu,e1],e2⟩
 ·obtain⟨fs,u1,_⟩:=oJ he
  obtain⟨res,e1,e2⟩:=uS (P:=P) he hk es ks 0 r hl hf
  cases es with
  |nil=>
   refine⟨res, ?_,e2⟩
   have:res=none:=by
    cases ks with
    |nil=>simp[kB]at hf;subst hf;exact e2
    |cons x xs=>simp[PList]at hl
   subst this
   simp[run_underlying u1,Instr.findNow]
  |cons e es=>
   refine⟨res, ?_,e2⟩
   have:Instr.sameNow (.struct fs) kv e.key=none:=by unfold Instr.sameNow;split <;> simp_all
   simp[run_underlying u1,Instr.findNow,this,e1]
theorem wk{P:Program}{w:World}{t:TypeId}{c:CK}(hc:yW P t=some c)(n:Nat)(em:Bool)(v:Value):(Instr.checkKey em (n+1) t v).run P w= .ok () w:=by
 have:=tG hc
 cases c
 ·obtain⟨ik,e⟩:=this;simp[Instr.checkKey,run_underlying e]
 ·simp[Instr.checkKey,run_underlying this]
 ·simp[Instr.checkKey,run_underlying this]
theorem tb{P:Program}{w:World}(n:Nat)(em:Bool)(cs:Array Value): ∀(fs:List Field) (i:Nat) (ks:List CK),oH P i fs=some ks→i+ks.length≤cs.size→
  (forIn fs PUnit.unit (fun f (_:PUnit)=>
    if f.name≠ "_" then(do
     let p ←Go.part f.type cs f.offset
     Instr.checkKey em (n+1) f.type p
     pure (ForInStep.yield PUnit.unit))else pure (ForInStep.yield PUnit.unit):Field→PUnit→Sem (ForInStep PUnit))).run P w= .ok PUnit.unit w
 | [],i,ks,hk,hs=>by simp
 |f::fs,i,ks,hk,hs=>by
  simp only[oH]at hk
  split at hk
  ·rename_i hc
   simp at hc
   obtain⟨⟨c1,c2⟩,c3⟩:=hc
   split at hk
   ·rename_i k XZ h1 h2
    simp at hk;subst hk
    have agg:uK P f.type=some false:=by
     have:=tG h1
     unfold uK
     cases k
     ·obtain⟨ik,e⟩:=this;simp[e]
     ·simp[this]
     ·simp[this]
    have hi:i<cs.size:=by simp at hs;omega
    have hn:(Go.part f.type cs f.offset).run P w= .ok cs[i] w:=by
     unfold Go.part;simp only[Sem.run_bind,tF agg,Result.andThen_ok]
     have:cs[i]? =some cs[i]:=Array.getElem?_eq_getElem hi
     simp[c1,this]
    have ih:=tb (P:=P) (w:=w) n em cs fs (i+1) XZ h2 (by simp at hs;omega)
    simp only[List.forIn_cons,Sem.run_bind,if_pos (show f.name≠ "_" from c2),hn,Result.andThen_ok,wk h1,Sem.run_pure]
    exact ih
   ·cases hk
  ·cases hk
theorem yx{P:Program}{β:fS}{G:Sp→Nat→Nat}{w:World}{M:fE}{t:TypeId}{ek:EK}{k:T}{kv:Value}(hc:keyOf P t=some ek)(hk:fk β G w M k kv)(H5:isKey ek k=true)(n:Nat)(em:Bool):
  (Instr.checkKey em (n+2) t kv).run P w= .ok () w:=by
 obtain⟨he,qM⟩:=H4 hc
 rcases qM with⟨c,rfl⟩|⟨ck,rfl⟩
 ·exact wk (oJ he) (n+1) em kv
 ·obtain⟨fs,u1,_,_,u4⟩:=oJ he
  unfold isKey at H5
  split at H5
  ·simp_all
  ·rename_i ks xs e
   simp at e;subst e
   simp only[fk]at hk
   obtain⟨arr,rfl,hl,_⟩:=hk
   have hlen:ck.length≤arr.size:=by
    have h1:=fo.length _ _ hl
    have: ∀(ks:List CK) (xs:List T),pI ks xs=true→ks.length=xs.length:=by
     intro ks
     induction ks with
     |nil=>intro xs h;cases xs <;> simp[pI]at h ⊢
     |cons k ks ih=>intro xs h;cases xs <;> simp[pI]at h ⊢; exact ih _ h.2
    rw[this _ _ H5,h1];simp
   have:=tb (P:=P) (w:=w) n em arr fs.toList 0 ck u4 (by omega)
   rw[Instr.checkKey]
   simp only[Sem.run_bind,run_underlying u1,Result.andThen_ok]
   rw[←Array.forIn_toList,this]
   rfl
  ·cases H5
end Go.Ev
