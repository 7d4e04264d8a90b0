/- A tree evaluator over the model, proved against it (part C): where it answers, the call returns that answer. Conditions: none beyond its theorems' own. -/
import Derived.Test.YtblcbheipjeoeaaGreatEvB
import Derived.Laws.Tables
set_option linter.unusedSimpArgs false
set_option linter.unusedVariables false
namespace Go.Ev
open Go
theorem zU{P:Program}{t:TypeId}{z:T}(h:tE P t=some z): ∃i r,P.info? t=some i∧i.zero=some r∧Dz r=some z:=by
 unfold tE at h
 cases hi:P.info? t with
 |none=>simp[hi]at h
 |some i=>
  simp only[hi,Option.bind_some]at h
  cases C:i.zero with
  |none=>simp[C]at h
  |some r=>grind
theorem Gt{P:Program}{t:TypeId}{z:T}(h:tE P t=some z)(w:World): ∃r,(zeroValue t).run P w= .ok r w∧ ∀w M,PRel w M z r:=by
 obtain⟨i,r,C,D,E⟩:=zU h
 exact⟨r,by simp[zeroValue,typeInfo,C,D],fun w M=>rD E⟩
theorem uT{β:iJ}{G:Sp→Nat→Nat}{w:World}{M:im}{t:T}{cv:Value}(h:gW β G w M t cv)(i:noTup t=true):gY β G w M (cellsOf t) cv.cells.toList∧(cellsOf t).all single=true:=by
 cases t
 case agg cs=>
  simp only[gW]at h
  obtain⟨a,rfl,r,C⟩:=h
  exact⟨r,C⟩
 case tup cs=>simp[noTup]at i
 case any=>simp[noTup]at i
 all_goals
  have D:=h
  simp only[gW,PRel]at h
  refine⟨?_,rfl⟩
  simp only[cellsOf,gY]
  refine⟨cv,[], ?_,D,rfl⟩
  first
   |(subst h;rfl)
   |(obtain⟨_,rfl,_⟩:=h;rfl)
   |(obtain⟨_,_,rfl,_⟩:=h;rfl)
   |(obtain⟨_,_,_,rfl,_⟩:=h;rfl)
   |(obtain⟨_,_,_,_,rfl,_⟩:=h;rfl)
   |(obtain⟨_,rfl⟩:=h;rfl)
theorem zV{w:World}{M:im}{t:T}{cv:Value}(h:PRel w M t cv)(i:noTup t=true):PList w M (cellsOf t) cv.cells.toList∧(cellsOf t).all single=true:=by
 cases t
 case agg cs=>
  simp only[PRel]at h
  obtain⟨a,rfl,r,C⟩:=h
  exact⟨r,C⟩
 case tup cs=>simp[noTup]at i
 case any=>simp[noTup]at i
 case isl=>simp only[PRel]at h
 case ptr=>simp only[PRel]at h
 case mp=>simp only[PRel]at h
 all_goals
  have D:=h
  simp only[PRel]at h
  refine⟨?_,rfl⟩
  simp only[cellsOf,PList]
  refine⟨cv,[], ?_,D,rfl⟩
  first
   |(subst h;rfl)
   |(obtain⟨_,rfl,_⟩:=h;rfl)
   |(obtain⟨_,_,rfl,_⟩:=h;rfl)
   |(obtain⟨_,_,_,rfl,_⟩:=h;rfl)
   |(obtain⟨_,_,_,_,rfl,_⟩:=h;rfl)
theorem jW{α:Type}: ∀(cs:List α) (off:Nat) (i:List α),(splice cs off i).length=cs.length
 |cs,0,[]=>by grind [splice]
 | [],0,v::i=>by simp[splice]
 |c::cs,0,v::i=>by simp[splice,jW cs 0 i]
 | [],off+1,i=>by simp[splice]
 |c::cs,off+1,i=>by simp[splice,jW cs off i]
theorem rF{α:Type}: ∀(cs:List α) (off:Nat),splice cs off []=cs
 |cs,0=>by grind [splice]
 | [],off+1=>by simp[splice]
 |c::cs,off+1=>by simp[splice,rF cs off]
theorem B4{α:Type}: ∀(cs:List α) (off:Nat) (v:α) (i:List α),splice (cs.set off v) (off+1) i=splice cs off (v::i)
 | [],off,v,i=>by grind [splice]
 |c::cs,0,v,i=>by simp[splice]
 |c::cs,off+1,v,i=>by simp[splice,B4 cs off v i]
theorem lp{α:Type}: ∀(cs:List α) (off:Nat) (i:List α) (j:Nat),(splice cs off i)[j]? =if off≤j∧j<off+i.length∧j<cs.length then i[j-off]? else cs[j]?
 |cs,0,[],j=>by rw[rF];simp
 | [],0,v::i,j=>by simp[splice]
 |c::cs,0,v::i,0=>by simp[splice]
 |c::cs,0,v::i,j+1=>by simp[splice,lp cs 0 i j]
 | [],off+1,i,j=>by simp[splice]
 |c::cs,off+1,i,0=>by simp[splice]
 |c::cs,off+1,i,j+1=>by
  simp only[splice,List.getElem?_cons_succ,lp cs off i j,List.length_cons]
  grind
theorem gY.splice{β:iJ}{G:Sp→Nat→Nat}{w:World}{M:im}: ∀{cs:List T} {r:List Value} {off:Nat} {D:List T} {MB:List Value},gY β G w M cs r→gY β G w M D MB→gY β G w M (splice cs off D) (splice r off MB)
 |cs,r,0,[],MB,i,C=>by grind [gY,rF]
 | [],r,0,v::D,MB,i,C=>by grind [gY,Ev.splice]
 |c::cs,r,0,v::D,MB,i,C=>by
  simp only[gY]at i C
  obtain⟨a,as,rfl,F,E⟩:=i
  obtain⟨u,us,rfl,H,I⟩:=C
  simp only[Ev.splice,gY]
  exact⟨u,_,rfl,H,gY.splice E I⟩
 | [],r,off+1,D,MB,i,C=>by simp_all[gY,Ev.splice]
 |c::cs,r,off+1,D,MB,i,C=>by
  simp only[gY]at i
  obtain⟨a,as,rfl,F,E⟩:=i
  simp only[Ev.splice,gY]
  exact⟨a,_,rfl,F,gY.splice E C⟩
theorem PList.splice{w:World}{M:im}: ∀{cs:List T} {r:List Value} {off:Nat} {D:List T} {MB:List Value},PList w M cs r→PList w M D MB→PList w M (splice cs off D) (splice r off MB)
 |cs,r,0,[],MB,i,C=>by grind [PList,rF]
 | [],r,0,v::D,MB,i,C=>by grind [PList,Ev.splice]
 |c::cs,r,0,v::D,MB,i,C=>by
  simp only[PList]at i C
  obtain⟨a,as,rfl,F,E⟩:=i
  obtain⟨u,us,rfl,H,I⟩:=C
  simp only[Ev.splice,PList]
  exact⟨u,_,rfl,H,PList.splice E I⟩
 | [],r,off+1,D,MB,i,C=>by simp_all[PList,Ev.splice]
 |c::cs,r,off+1,D,MB,i,C=>by
  simp only[PList]at i
  obtain⟨a,as,rfl,F,E⟩:=i
  simp only[Ev.splice,PList]
  exact⟨a,_,rfl,F,PList.splice E C⟩
theorem nZ{p:T→Bool}{cs i:List T}{off:Nat}(r:cs.all p=true)(C:i.all p=true):(splice cs off i).all p=true:=by
 grind [List.all_eq_true,lp,List.getElem?_of_mem]
theorem Bi(off:Nat): ∀(r:List Value) (s:Nat) (i:Array Value),((r.zipIdx s).foldl (fun(cs:Array Value) (p:Value×Nat)=>cs.setIfInBounds (off+p.2) p.1) i).toList=splice i.toList (off+s) r
 | [],s,i=>by simp[rF]
 |v::r,s,i=>by
  simp only[List.zipIdx_cons,List.foldl_cons]
  rw[Bi off r (s+1),Array.toList_setIfInBounds,←Nat.add_assoc,B4]
theorem OX{β:iJ}{G:Sp→Nat→Nat}{w:World}{M:im}{place:Nat→Option (Nat×Nat)}: ∀(parts:List (Nat×Value)) (ps:List (Nat×List T)) (D:List T) (C:Array Value) (E:List T),
  gY β G w M D C.toList→D.all single=true→parts.length=ps.length→(∀(j i:Nat) (cv:Value) (off:Nat) (ts:List T),parts[j]? =some (i,cv)→ps[j]? =some (off,ts)→place i=some (off,ts.length)∧gY β G w M ts cv.cells.toList∧ts.all single=true)→
  qG D ps=some E→ ∃rc,Instr.fill place C parts=some rc∧gY β G w M E rc.toList∧E.all single=true
 | [],ps,D,C,E,H,hs,r,I,F=>by
   grind [qG,Instr.fill]
 |(i,cv)::parts,ps,D,C,E,H,hs,r,I,F=>by
  cases ps with
  |nil=>simp at r
  |cons p ps=>
   obtain⟨off,ts⟩:=p
   simp only[qG]at F
   split at F
   ·rename_i K
    obtain⟨U,J,N⟩:=I 0 i cv off ts rfl rfl
    have L1:=gY.length _ _ J
    have Tn:=gY.length _ _ H
    have V:cv.cells.size=ts.length:=by rw[L1];simp
    have O:C.size=D.length:=by rw[Tn];simp
    have W: ¬((cv.cells.size≠ts.length||off+cv.cells.size>C.size)=true):=by
     grind
    have e:(cv.cells.zipIdx.foldl (fun(cs:Array Value) (p:Value×Nat)=>cs.setIfInBounds (off+p.2) p.1) C).toList=splice C.toList off cv.cells.toList:=by
     have:=Bi off cv.cells.toList 0 C
     grind [Array.toList_zipIdx]
    obtain⟨rc,X,Y,Z⟩:=OX parts ps (splice D off ts) (cv.cells.zipIdx.foldl (fun(cs:Array Value) (p:Value×Nat)=>cs.setIfInBounds (off+p.2) p.1) C) E
     (by rw[e];exact gY.splice H J) (nZ hs N) (by simpa using r) (fun j i cv off ts a b=>I (j+1) i cv off ts (by simpa using a) (by simpa using b)) F
    grind [Instr.fill]
   ·cases F
section
variable{P:Program}{B:lS}{st:St}{a:Act}{w:World}{β:iJ}{M:im}{o:Oper}{v:T}{ups:List Up}
theorem zW{C:List (Nat×Nat)}: ∀{ps:List (Nat×Operand)} {r:List (Nat×Nat×iz)},placesOf C ps=some r→ps.length=r.length∧ ∀(j i:Nat) (x:Operand) (off n:Nat) (y:iz),ps[j]? =some (i,x)→r[j]? =some (off,n,y)→C[i]? =some (off,n)∧lP x=some y
 | [],r,h=>by grind [placesOf]
 |(E,F)::ps,r,h=>by
  simp only[placesOf]at h
  split at h
  ·rename_i p y H I J D
   simp at h;subst h
   obtain⟨a1,a2⟩:=zW D
   grind
  ·cases h
theorem ym{sz:Nat}: ∀{ps:List (Nat×Operand)} {r:List (Nat×Nat×iz)},ri sz ps=some r→ps.length=r.length∧ ∀(j i:Nat) (x:Operand) (off n:Nat) (y:iz),ps[j]? =some (i,x)→r[j]? =some (off,n,y)→(off=i*sz∧n=sz)∧lP x=some y
 | [],r,h=>by grind [ri]
 |(D,E)::ps,r,h=>by
  simp only[ri]at h
  split at h
  ·rename_i y F H C
   simp at h;subst h
   obtain⟨a1,a2⟩:=ym C
   grind
  ·cases h
variable(kY:qH β st.gens w M st.rho a.eval)(h:iP B st w β M)
include kY h
theorem VR{d nx:Nat}{t:TypeId}{ps:Array (Nat×Operand)}{z:T}{r:List (Nat×Nat×iz)}(ho:o.op= .build t ps)(hz:tE P t=some z)
  (J:(∃K D,P.underlying t=some (.struct K)∧K.toList.mapM (fun f=>(P.info? f.type).map fun i=>(f.offset,i.size))=some D∧placesOf D ps.toList=some r)∨(∃n e sz,P.underlying t=some (.array n e)∧lH P e=some sz∧ri sz ps.toList=some r))
  (N:noTup z=true) (E:(jf d st.rho (.build (cellsOf z) r)).run st.get nx=some (.val v ups)):lz P B st a w β M o v ups:=by
 obtain⟨i,O,z1,z2,z3⟩:=zU hz
 have U:gW β st.gens w M z O:=PRel.toV _ _ _ _ (rD z3)
 obtain⟨V,W⟩:=uT U N
 simp only[jf]at E
 split at E
 ·rename_i iI
  cases X:qG (cellsOf z) (r.map fun p=>(p.1,cellsOf (st.rho p.2.2)))with
  |none=>simp[X,Ev.val,Q.run]at E
  |some rs=>
   simp[X,Ev.val,Q.run]at E;obtain⟨rfl,rfl⟩:=E
   have parts: ∃place:Nat→Option (Nat×Nat),(∀rc,Instr.fill place O.cells (ps.toList.map fun p=>(p.1,a.eval p.2))=some rc→P.built t (ps.map fun(i,x)=>(i,a.eval x)).toList=some rc)∧ps.toList.length=r.length∧
     ∀(j i:Nat) (x:Operand) (off n:Nat) (y:iz),ps.toList[j]? =some (i,x)→r[j]? =some (off,n,y)→place i=some (off,n)∧lP x=some y:=by
    rcases J with⟨K,D,u1,u2,u3⟩|⟨n,e,sz,u1,u2,u3⟩
    ·obtain⟨Y,Z⟩:=zW u3
     refine⟨fun i=>D[i]?,fun rc C=> ?_,Y,Z⟩
     simp only[Program.built,z1,z2,u1,u2,Array.toList_map]
     have:(fun x:Nat=>D.toArray[x]?)=fun i=>D[i]? :=by funext i;simp
     rw[this];exact C
    ·obtain⟨Y,Z⟩:=ym u3
     have: ∃F,P.info? e=some F∧F.size=sz:=by
      simp_all[lH]
     obtain⟨F,v1,v2⟩:=this
     refine⟨fun i=>some (i*F.size,F.size),fun rc C=> ?_,Y,fun j i x off n y H I=> ?_⟩
     ·simp only[Program.built,z1,z2,u1,v1,Array.toList_map];exact C
     ·obtain⟨⟨rfl,rfl⟩,c⟩:=Z j i x off n y H I
      exact⟨by rw[v2],c⟩
   obtain⟨place,q1,q2,q3⟩:=parts
   obtain⟨rc,r1,r2,r3⟩:=OX (place:=place) (ps.toList.map fun p=>(p.1,a.eval p.2)) _ (cellsOf z) O.cells rs V W (by simp[q2]) (by
    intro j i cv off ts H I
    rw[List.getElem?_map,Option.map_eq_some_iff]at H I
    obtain⟨⟨i',x⟩,c1,c2⟩:=H
    obtain⟨⟨awh,n,y⟩,c3,c4⟩:=I
    simp at c2 c4
    obtain⟨rfl,rfl⟩:=c2
    obtain⟨rfl,rfl⟩:=c4
    obtain⟨e1,e2⟩:=q3 j i' x awh n y c1 c3
    have hv:=kY x y e2
    have VS:=(List.all_eq_true.1 iI) _ (List.mem_of_getElem? c3)
    simp at VS
    obtain⟨k1,k2⟩:=uT hv VS.2
    exact⟨by rw[e1,VS.1],k1,k2⟩) X
   refine iL h (cv:= .agg rc) ?_ (by simp only[gW];exact⟨rc,rfl,r2,r3⟩)
   have:=run_build (P:=P) w t (ps.map fun(i,x)=>(i,a.eval x)) rc (q1 rc r1)
   simp[execOp,ho,this]
 ·simp[Q.run]at E
end
end Go.Ev
namespace Go.Ev
open Go
theorem ph{st:St}{d:Nat}{sh:Bool}{ob:Ob}{f:Sp→Nat→Nat→T}{v:T}{ups:List Up}(h:(oT d sh ob f).run st.get st.sh.length=some (.val v ups)):
  ∃sp k g,v=f sp k g∧ups= [(sp,k,⟨g,ob⟩)]∧st.gens sp k<g∧(sp= .S→sh=true):=by
 grind [oT,Q.run,St.get,Gr,lA]
theorem zX{α:Type}(z:List α): ∀n,(repl z n).length=n*z.length
 |0=>by simp[repl]
 |n+1=>by simp[repl,zX z n,Nat.add_mul];omega
theorem J0{α:Type}(z:List α)(i:z≠ []): ∀(n j:Nat),j<n*z.length→(repl z n)[j]? =z[j%z.length]?
 |0,j,h=>by simp at h
 |n+1,j,h=>by
  have Cz:0<z.length:=List.length_pos_iff.2 i
  simp only[repl]
  by_cases r:j<z.length
  ·rw[List.getElem?_append_left r,Nat.mod_eq_of_lt r]
  ·rw[List.getElem?_append_right (by omega),J0 z i n (j-z.length) (by rw[Nat.add_mul]at h;omega)]
   grind [Nat.mod_eq_sub_mod]
theorem DI(z:Array Value)(n:Nat)(r:z.size≠0):((Array.range (n*z.size)).map (fun i=>z[i%z.size]!)).toList=repl z.toList n:=by
 apply List.ext_getElem?
 grind [J0,List.getElem?_eq_none,zX,Nat.mod_lt]
theorem PList.repl{w:World}{M:im}{z:List T}{i:List Value}(h:PList w M z i): ∀n,PList w M (Ev.repl z n) (Ev.repl i n)
 |0=>by simp[Ev.repl,PList]
 |n+1=>by simp only[Ev.repl];exact PList.append h (PList.repl h n)
theorem DJ{z:List T}(h:z.all single=true): ∀n,(repl z n).all single=true
 |0=>by simp[repl]
 |n+1=>by simp only[repl,List.all_append,Bool.and_eq_true];exact⟨h,DJ h n⟩
theorem Fx{P:Program}{w:World}{t e:TypeId}{i:TypeInfo}{r:Value}{k:IntKind}{m:Int}(D:P.underlying t=some (.slice e))(hi:P.info? e=some i)(E:i.zero=some r)(I:0≤m)(VT:IntKind.i64.wrap m=m)
  (J:(i.bytes:Int)*m≤281474976710656) (K:m.toNat*i.bytes≤140737488355328):
  (Instr.makeSlice t (.int k m) (.int k m)).run P w= .ok (.slice (some ⟨w.heap.size,0,none⟩) m.toNat m.toNat) (w.alloc (.cells ((Array.range (m.toNat*i.size)).map (fun j=>r.cells[j%r.cells.size]!)) e)):=by
 have F: ¬(m<0):=by omega
 have N: ¬(281474976710656<(i.bytes:Int)*m):=by omega
 have O: ¬(140737488355328<m.toNat*i.bytes):=by omega
 have H: ¬(m.toNat*i.bytes>roomBytes):=by unfold roomBytes;omega
 simp only[Instr.makeSlice,Sem.run_bind,run_underlying D,Result.andThen_ok,asInt,asIntOf,Sem.run_pure,typeInfo,run_program,hi,VT]
 simp only[F,decide_false,Bool.false_or,Int.lt_irrefl,gt_iff_lt,Bool.or_false]
 rw[if_neg (by simp;omega)]
 simp only[Sem.run_bind,askRoom,if_neg H,Sem.run_pure,Result.andThen_ok,sizeOf,typeInfo,run_program,hi]
 by_cases C:m.toNat*i.size=0
 ·rw[if_pos C,C]
  have:Array.range 0= #[]:=rfl
  simp[newRow,this]
 ·rw[if_neg C]
  simp[newRow,zeroValue,typeInfo,hi,E]
section
variable{P:Program}{B:lS}{st:St}{a:Act}{w:World}{β:iJ}{M:im}{o:Oper}{v:T}{ups:List Up}
theorem Bj(h:iP B st w β M)(el:TypeId)(c:Array Value)(cs:List T)(bx:Bool)(sp:Sp)(k g:Nat)(D:st.gens sp k<g)
  (E:pW sp bx β st.gens w M cs (c.toList.take cs.length)) (hs:cs.all single=true) (r:cs.length≤c.size):
  iP B (st.up (sp,k,⟨g,.cells cs 0 bx⟩)) (w.alloc (.cells c el)) (nM β sp k g ⟨w.heap.size,0,c.size⟩) (fun b x=>M b x∨b=w.heap.size)∧
  Tr st w β M (st.up (sp,k,⟨g,.cells cs 0 bx⟩)) (w.alloc (.cells c el)) (nM β sp k g ⟨w.heap.size,0,c.size⟩) (fun b x=>M b x∨b=w.heap.size):=by
 have F: ∀i k' C,C≤st.gens i k'→nM β sp k g ⟨w.heap.size,0,c.size⟩ i k' C=β i k' C:=by
  grind [zO]
 have H: ∀i k',st.gens i k'≤(st.up (sp,k,⟨g,.cells cs 0 bx⟩)).gens i k':=by
  intro i k'
  rw[lu]
  grind
 refine VN h sp k g D (.cells c el) c.size (.cells cs 0 bx) ?_
 unfold kQ
 simp only[jv]
 refine⟨c,el,(0,0),by rw[heap_alloc,if_pos rfl],by omega,r,rfl, ?_,fun j _ _=>Or.inr (by trivial),hs,Nat.zero_le _⟩
 simp only[List.drop_zero]
 exact pW.mono (uP w M _) F H E
theorem HO{o':Obj}{sp:Sp}{k g:Nat}{ob:Ob}{ext:Nat}{cv:Value}{v:T}(r:(execOp a.eval o).run P w= .ok (.value cv) (w.alloc o'))
  (i:iP B (st.up (sp,k,⟨g,ob⟩)) (w.alloc o') (nM β sp k g ⟨w.heap.size,0,ext⟩) (fun b x=>M b x∨b=w.heap.size)∧
    Tr st w β M (st.up (sp,k,⟨g,ob⟩)) (w.alloc o') (nM β sp k g ⟨w.heap.size,0,ext⟩) (fun b x=>M b x∨b=w.heap.size))
  (C:gW (nM β sp k g ⟨w.heap.size,0,ext⟩) (st.up (sp,k,⟨g,ob⟩)).gens (w.alloc o') (fun b x=>M b x∨b=w.heap.size) v cv):lz P B st a w β M o v [(sp,k,⟨g,ob⟩)]:=
 ⟨_,cv,_,_,_,r,.inl rfl,i.1,i.2,by show _≤(w.heap.push o').size;simp,C⟩
theorem Tr.less{M':im}(hs: ∀b x,M' b x→M b x):Tr st w β M st w β M':=⟨kl hs,fun _ _ _ _=>rfl,fun _ _=>Nat.le_refl _⟩
theorem lz.less{M':im}(hs: ∀b x,M' b x→M b x)(h:lz P B st a w β M' o v ups):lz P B st a w β M o v ups:=by
 obtain⟨i,cv,w',r,M2,C,D,E,F,H,I⟩:=h
 exact⟨i,cv,w',r,M2,C,D,E,(Tr.less hs).trans F (Nat.le_refl _),H,I⟩
theorem zY{l:List Value}{n:Nat}(h:n=l.length):l.take n=l:=by subst h;simp
variable(kY:qH β st.gens w M st.rho a.eval)(h:iP B st w β M)
include h
theorem VU{d:Nat}{sh:Bool}{t:TypeId}{z:T}(E:o.op= .alloc t)(F:tE P t=some z)(r:noTup z=true)
  (C:(jf d st.rho (.alloc (cellsOf z) sh)).run st.get st.sh.length=some (.val v ups)):lz P B st a w β M o v ups:=by
 simp only[jf]at C
 obtain⟨sp,k,g,rfl,rfl,H,I⟩:=ph C
 obtain⟨J,K,N⟩:=Gt F w
 obtain⟨D,O⟩:=zV (N w M) r
 have i:=PList.length _ _ D
 refine HO (cv:= .pointer (some ⟨w.heap.size,0,none⟩)) ?_ (Bj h t J.cells (cellsOf z) true sp k g H (by rw[zY i];exact pW.ofP D) O (by rw[i];simp)) ?_
 ·simp[execOp,E,Instr.alloc,K,newVar,newRow]
 ·simp[gW,jv,lu]
include kY
theorem ahZ{d:Nat}{sh:Bool}{t:TypeId}{x:Operand}{E:iz}(U:o.op= .box t x)(V:lP x=some E)
  (i:(jf d st.rho (.box E sh)).run st.get st.sh.length=some (.val v ups)):lz P B st a w β M o v ups:=by
 have W:=kY x E V
 simp only[jf]at i
 split at i
 ·simp[Q.run]at i
 ·rename_i C
  simp at C
  have F: ∀(M':im) (r:T),iP B st w β M'→noTup r=true→ ∀sp k g,st.gens sp k<g→(match sp with| .L=>gW β st.gens w M' r (a.eval x)| .S=>uQ true β st.gens w M' r (a.eval x))→lz P B st a w β M' o (.ptr sp k g 0) [(sp,k,⟨g,.cells (cellsOf r) 0 true⟩)]:=by
   intro M' r X C sp k g H Y
   have I:gW β st.gens w M' r (a.eval x):=by
    grind [uQ.toV]
   obtain⟨K,Z⟩:=uT I C
   have D:=gY.length _ _ K
   refine HO (cv:= .pointer (some ⟨w.heap.size,0,none⟩)) ?_ (Bj X t (a.eval x).cells (cellsOf r) true sp k g H (by
    rw[zY D]
    cases sp
    ·exact K
    ·exact fun iM G' p q=>(uT (Y iM G' p q) C).1) Z (by rw[D];simp)) ?_
   ·simp[execOp,U,Instr.box,newVar,newRow]
   ·simp[gW,jv,lu]
  split at i
  ·simp only[Q.run_bind]at i
   cases J:(fz true iB (st.rho E)).run st.get st.sh.length with
   |none=>simp[J]at i
   |some p=>
    obtain⟨r,us⟩:=p
    simp only[J,Option.bind_some]at i
    split at i
    ·rename_i N
     simp at N
     obtain⟨rfl,ZS⟩:=N
     obtain⟨sp,k,g,rfl,rfl,H,hgs⟩:=ph i
     obtain⟨M',q1,q2,q3,O,q5⟩:=B2 true st iB (st.rho E) B st w β M _ r [] _ (Fz.refl st) h W J
     exact lz.less q3 (F M' r q1 ZS sp k g H (by cases sp;exact O.toV;exact O))
    ·simp[Q.run]at i
  grind [ph]
omit kY in
theorem VV{d:Nat}{sh:Bool}{t:TypeId}(r:o.op= .makeMap t none)(i:(jf d st.rho (.mkmap sh)).run st.get st.sh.length=some (.val v ups)):lz P B st a w β M o v ups:=by
 simp only[jf]at i
 obtain⟨sp,k,g,rfl,rfl,C,D⟩:=ph i
 refine HO (ext:=0) (cv:= .map (some w.heap.size)) (o':= .map #[] 0) ?_ (VN h sp k g C (.map #[] 0) 0 (.map [] [] false) ?_) ?_
 ·simp[execOp,r,Instr.makeMap]
 ·unfold kQ
  simp only[jv]
  exact⟨#[],0,by rw[heap_alloc,if_pos rfl],MapKept.stamped_empty 0,by simp[PList],by simp[PList],fun _ _=>Or.inr (by trivial)⟩
 ·simp[gW,jv,lu]
theorem aaH{d:Nat}{sh:Bool}{t e:TypeId}{l c:Operand}{J:iz}{i:TypeInfo}{z:T}(ho:o.op= .makeSlice t l c)(ht:P.underlying t=some (.slice e))(hi:P.info? e=some i)(hz:tE P e=some z)(hl:lP l=some J)(OY:HJ l c=true)
  (K:noTup z=true) (I:i.size=(cellsOf z).length) (h0:i.size≠0)
  (D:(jf d st.rho (.mksl (cellsOf z) i.bytes J sh)).run st.get st.sh.length=some (.val v ups)):lz P B st a w β M o v ups:=by
 have W:=kY l J hl
 have ec:a.eval c=a.eval l:=by
  unfold HJ at OY
  grind
 simp only[jf]at D
 split at D
 ·rename_i n en
  obtain⟨k0,m,em,X,rfl⟩:=oe en
  rw[em]at W
  have el:=W.int
  split at D
  ·rename_i Y
   simp at Y
   obtain⟨Rh,L2⟩:=Y
   obtain⟨sp,k,g,rfl,rfl,hg,hgs⟩:=ph D
   obtain⟨i',r,N,z2,z3⟩:=zU hz
   rw[hi]at N;simp at N;subst N
   obtain⟨Z,c2⟩:=zV (w:=w) (M:=M) (rD z3) K
   have E:=PList.length _ _ Z
   have O:r.cells.size=i.size:=by rw[I,E];simp
   have U:=DI r.cells m.toNat (by omega)
   have V:roomy=1099511627776:=rfl
   rw[V]at Rh L2
   have VT:IntKind.i64.wrap m=m:=by
    simp[IntKind.wrap,IntKind.bits,IntKind.signed];omega
   have F:((Array.range (m.toNat*i.size)).map (fun j=>r.cells[j%r.cells.size]!)).size=m.toNat*i.size:=by simp
   refine HO (cv:= .slice (some ⟨w.heap.size,0,none⟩) m.toNat m.toNat) ?_ (Bj h e ((Array.range (m.toNat*i.size)).map (fun j=>r.cells[j%r.cells.size]!)) (repl (cellsOf z) m.toNat) (nmZ (cellsOf z)) sp k g hg ?_ (DJ c2 _) ?_) ?_
   ·have H:(i.bytes:Int)*m=((m.toNat*i.bytes:Nat):Int):=by rw[Int.natCast_mul,Int.toNat_of_nonneg X,Int.mul_comm]
    have:=Fx (P:=P) (w:=w) (k:=k0) ht hi z2 X VT (by rw[H];omega) (by omega)
    simp[execOp,ho,ec,el,this]
   ·have C:PList w M (repl (cellsOf z) m.toNat) (((Array.range (m.toNat*i.size)).map (fun j=>r.cells[j%r.cells.size]!)).toList.take (repl (cellsOf z) m.toNat).length):=by
     rw[zX,←I,←O,U]
     have:=PList.repl Z m.toNat
     rw[zY]
     ·exact this
     ·rw[zX];simp
    cases hb:nmZ (cellsOf z)with
    |false=>exact C
    |true=>
     cases sp with
     |L=>exact PList.toV β st.gens _ _ C
     |S=>exact fun iM G' _ _=>PList.toV iM G' _ _ C
   ·rw[F,zX,I];exact Nat.le_refl _
   ·simp only[gW,jv,lu]
    refine⟨by simp,m.toNat,rfl,Nat.le_refl _, ?_⟩
    rw[F,I];simp
  ·simp[Q.run]at D
 ·simp[Q.run]at D
end
end Go.Ev
namespace Go.Ev
open Go
theorem qX(st:St): ∀(us:List Up) (sp:Sp) (k:Nat),pf us sp k=false→(st.ups us).get sp k=st.get sp k:=by
 intro us
 induction us generalizing st with
 |nil=>intro sp k _;rfl
 |cons u us ih=>
  grind [pf,Bool.or_eq_false_iff,St.ups,lY]
theorem af6(st:St)(u:Up):(st.up u).fr=st.fr:=by obtain⟨sp,k,e⟩:=u;cases sp <;> rfl
theorem HP(st:St): ∀(us:List Up),(st.ups us).fr=st.fr:=by
 intro us
 induction us generalizing st with
 |nil=>rfl
 |cons u us ih=>grind [St.ups,af6]
theorem B5: ∀{ps:List (Nat×Operand)} {r:List (Nat×iz)},xq ps=some r→ps.length=r.length∧ ∀(j i:Nat) (x:Operand) (C:Nat) (y:iz),ps[j]? =some (i,x)→r[j]? =some (C,y)→C=i∧lP x=some y
 | [],r,h=>by grind [xq]
 |(E,F)::ps,r,h=>by
  simp only[xq]at h
  split at h
  ·rename_i y H I D
   simp at h;subst h
   obtain⟨a1,a2⟩:=B5 D
   grind
  ·cases h
theorem J1{w:World}{M:im}{place:Nat→Option (Nat×Nat)}: ∀(parts:List (Nat×Value)) (ps:List (Nat×List T)) (D:List T) (C:Array Value) (E:List T),
  PList w M D C.toList→D.all single=true→parts.length=ps.length→(∀(j i:Nat) (cv:Value) (off:Nat) (ts:List T),parts[j]? =some (i,cv)→ps[j]? =some (off,ts)→place i=some (off,ts.length)∧PList w M ts cv.cells.toList∧ts.all single=true)→
  qG D ps=some E→ ∃rc,Instr.fill place C parts=some rc∧PList w M E rc.toList∧E.all single=true∧E.length=D.length
 | [],ps,D,C,E,H,hs,r,I,F=>by
   grind [qG,Instr.fill]
 |(i,cv)::parts,ps,D,C,E,H,hs,r,I,F=>by
  cases ps with
  |nil=>simp at r
  |cons p ps=>
   obtain⟨off,ts⟩:=p
   simp only[qG]at F
   split at F
   ·rename_i K
    obtain⟨U,J,N⟩:=I 0 i cv off ts rfl rfl
    have L1:=PList.length _ _ J
    have Tn:=PList.length _ _ H
    have V:cv.cells.size=ts.length:=by rw[L1];simp
    have O:C.size=D.length:=by rw[Tn];simp
    have W: ¬((cv.cells.size≠ts.length||off+cv.cells.size>C.size)=true):=by
     grind
    have e:(cv.cells.zipIdx.foldl (fun(cs:Array Value) (p:Value×Nat)=>cs.setIfInBounds (off+p.2) p.1) C).toList=splice C.toList off cv.cells.toList:=by
     have:=Bi off cv.cells.toList 0 C
     grind [Array.toList_zipIdx]
    obtain⟨rc,X,Y,Z,r4⟩:=J1 parts ps (splice D off ts) (cv.cells.zipIdx.foldl (fun(cs:Array Value) (p:Value×Nat)=>cs.setIfInBounds (off+p.2) p.1) C) E
     (by rw[e];exact PList.splice H J) (nZ hs N) (by simpa using r) (fun j i cv off ts a b=>I (j+1) i cv off ts (by simpa using a) (by simpa using b)) F
    grind [jW,Instr.fill]
   ·cases F
theorem DK{P:Program}{w:World}{t e:TypeId}{len n:Nat}{i:TypeInfo}{D:Value}{parts:Array (Nat×Value)}{rc:Array Value}(E:P.underlying t=some (.slice e))(hi:P.info? e=some i)(H:i.size=n)(I:i.zero=some D)(J:len*n≤16777216)
  (Gu:Instr.fill (fun j=>some (j*n,n)) ((Array.range (len*n)).map (fun j=>D.cells[j%D.cells.size]!)) parts.toList=some rc):
  (Instr.buildSlice t len parts).run P w= .ok (.slice (some ⟨w.heap.size,0,none⟩) len len) (w.alloc (.cells rc e)):=by
 have J2: ¬(len*n>2 ^ 24):=by omega
 have C:(sizeOf e).run P w= .ok n w:=by simp[sizeOf,typeInfo,hi,H]
 have r:(zeroValue e).run P w= .ok D w:=by simp[zeroValue,typeInfo,hi,I]
 unfold Instr.buildSlice
 by_cases L3:len*n=0
 ·have F: ∀f:Nat→Value,(Array.range (len*n)).map f= #[]:=by
   grind
  rw[F]at Gu
  simp only[Sem.run_bind,run_underlying E,Result.andThen_ok,C,if_neg J2,if_pos L3,Sem.run_pure,F,Gu]
  simp[newRow]
 ·simp only[Sem.run_bind,run_underlying E,Result.andThen_ok,C,if_neg J2,if_neg L3,Sem.run_pure,r,Gu]
  simp[newRow]
section
variable{P:Program}{B:lS}{st:St}{a:Act}{w:World}{β:iJ}{M:im}{o:Oper}{v:T}{ups:List Up}
variable(kY:qH β st.gens w M st.rho a.eval)(h:iP B st w β M)
theorem Tr.fz{i:St}{M':im}(r:Fz st i)(hs: ∀b x,M' b x→M b x):Tr st w β M i w β M':=
 ⟨kl hs,fun _ _ _ _=>rfl,fun sp k=>by rw[r.gens];exact Nat.le_refl _⟩
include kY h
theorem ah2{d I:Nat}{t e:TypeId}{len:Nat}{ps:Array (Nat×Operand)}{r:List (Nat×iz)}{z:T}{n:Nat}(ho:o.op= .buildSlice t len ps)(ht:P.underlying t=some (.slice e))(hz:tE P e=some z)(J:lH P e=some n)(hr:xq ps.toList=some r)
  (K:noTup z=true) (N:n=(cellsOf z).length) (h0:n≠0) (zZ:len*n≤16777216)
  (C:(jf d st.rho (.bsl (cellsOf z) len r)).run st.get I=some (.val v ups)):lz P B st a w β M o v ups:=by
 simp only[jf,Q.run_bind]at C
 cases O:(iZ (Ev.fz false iB) (r.map fun p=>st.rho p.2)).run st.get I with
 |none=>simp[O]at C
 |some p=>
  obtain⟨ts,us⟩:=p
  simp only[O,Option.bind_some]at C
  split at C
  ·rename_i iI
   split at C
   ·rename_i cs hf
    simp[Q.run]at C;obtain⟨rfl,rfl⟩:=C
    obtain⟨g1,g2⟩:=B5 hr
    have uR:gY β st.gens w M (r.map fun p=>st.rho p.2) (ps.toList.map fun p=>a.eval p.2):=by
     have gen: ∀(E:List (Nat×Operand)) (D:List (Nat×iz)),E.length=D.length→(∀(j i:Nat) (x:Operand) (H:Nat) (y:iz),E[j]? =some (i,x)→D[j]? =some (H,y)→H=i∧lP x=some y)→gY β st.gens w M (D.map fun p=>st.rho p.2) (E.map fun p=>a.eval p.2):=by
      intro E
      induction E with
      |nil=>grind [gY]
      |cons q E ih=>
       intro D hl hg
       cases D with
       |nil=>simp at hl
       |cons rr D=>
        simp only[List.map_cons,gY]
        exact⟨_,_,rfl,kY _ _ (hg 0 q.1 q.2 rr.1 rr.2 rfl rfl).2,ih D (by simpa using hl) (fun j i x H y a b=>hg (j+1) i x H y (by simpa using a) (by simpa using b))⟩
     grind
    obtain⟨M',q1,q2,q3,q4,q5,q6⟩:=pL (fun t=>B2 false st iB t) _ B st w β M _ ts us I (Fz.refl st) h uR O
    have U:PList w M' ts (ps.toList.map fun p=>a.eval p.2):=q4
    obtain⟨i,V,z1,z2,z3⟩:=zU hz
    obtain⟨c1,c2⟩:=zV (w:=w) (M:=M') (rD z3) K
    have W:=PList.length _ _ c1
    have X:i.size=n:=by unfold lH at J;rw[z1]at J;simpa using J
    have F:V.cells.size=n:=by rw[N,W];simp
    have Y:=DI V.cells len (by omega)
    rw[F]at Y
    have Z:PList w M' (repl (cellsOf z) len) ((Array.range (len*n)).map (fun j=>V.cells[j%n]!)).toList:=by
     grind [PList.repl]
    obtain⟨rc,r1,r2,r3,r4⟩:=J1 (place:=fun i=>some (i*n,n)) (ps.toList.map fun p=>(p.1,a.eval p.2)) _ (repl (cellsOf z) len) _ cs Z (DJ c2 len) (by simp[g1,q6]) (by
     intro j i cv off tt b1 b2
     rw[List.getElem?_map,Option.map_eq_some_iff]at b1
     obtain⟨⟨i1,x⟩,c3,c4⟩:=b1
     simp at c4;obtain⟨rfl,rfl⟩:=c4
     rw[List.getElem?_zip_eq_some]at b2
     obtain⟨b3,b4⟩:=b2
     rw[List.getElem?_map,Option.map_eq_some_iff]at b3 b4
     obtain⟨⟨i2,y⟩,d1,d2⟩:=b3
     obtain⟨tv,d3,d4⟩:=b4
     obtain⟨e1,e2⟩:=g2 j i1 x i2 y c3 d1
     subst e1
     simp at d2
     obtain⟨cv',f1,f2⟩:=U.get d3
     rw[List.getElem?_map,c3]at f1
     simp at f1;subst f1
     have J3:=(List.all_eq_true.1 iI) _ (List.mem_of_getElem? d3)
     simp at J3
     obtain⟨k1,k2⟩:=zV f2 J3.2
     subst d4
     exact⟨by rw[J3.1,←N,←d2,N],k1,k2⟩) hf
    obtain⟨p1,p2⟩:=ahK q1 (.cells rc e)
    refine⟨_,.slice (some ⟨w.heap.size,0,none⟩) len len,w.alloc (.cells rc e),β,M', ?_,.inl rfl,p1,(Tr.fz q2 q3).trans p2 (Nat.le_refl _),by show _≤(w.heap.push _).size;simp, ?_⟩
    ·have:=DK (P:=P) (w:=w) (t:=t) (e:=e) (len:=len) (n:=n) (parts:=ps.map fun(i,x)=>(i,a.eval x)) (rc:=rc) ht z1 X z2 zZ (by rw[F];simpa using r1)
     simp[execOp,ho,this]
    ·simp only[gW,PRel]
     refine⟨w.heap.size,0,len,none,rfl,Nat.le_refl _,fun _=>rfl,.inl rfl, ?_⟩
     have ZT:=PList.length _ _ r2
     refine iH.of (c:=rc) (el:=e) (fz:=(0,0)) (by rw[heap_alloc,if_pos rfl]) _ _ ?_ ?_ r3
     ·rw[List.drop_zero,zY ZT];exact PList.mono p2.keep _ _ r2
     ·intro x _ _ ZP
      exact Nat.lt_irrefl _ (q1.mlt _ _ ZP)
   ·simp[Q.run]at C
  ·simp[Q.run]at C
end
end Go.Ev
namespace Go.Ev
open Go
theorem qu{w:World}{g:Nat}{To cs:Array Value}{t:TypeId}{fr:Nat×Nat}(i:w.heap[g]? =some (.cells To t fr)):w.setRow g cs=setBlock w g (.cells cs t fr):=by
 unfold World.setRow setBlock
 congr 1
 grind
theorem gW.one{β:iJ}{G:Sp→Nat→Nat}{w:World}{M:im}{t:T}{cv:Value}(h:gW β G w M t cv)(hs:single t=true):cv.oneCell'=true:=by
 cases t <;> simp[single]at hs <;> simp only[gW,PRel]at h
 all_goals first
  |(subst h;rfl)
  |(obtain⟨_,rfl,_⟩:=h;rfl)
  |(obtain⟨_,_,rfl,_⟩:=h;rfl)
  |(obtain⟨_,_,_,rfl,_⟩:=h;rfl)
  |(obtain⟨_,_,_,_,rfl,_⟩:=h;rfl)
  |(obtain⟨_,rfl⟩:=h;rfl)
theorem gY.one{β:iJ}{G:Sp→Nat→Nat}{w:World}{M:im}: ∀{ts:List T} {i:List Value},gY β G w M ts i→ts.all single=true→ ∀v∈i,v.oneCell'=true
 | [],i,h,_=>by grind [gY]
 |t::ts,i,h,hs=>by
  simp only[gY]at h
  obtain⟨u,us,rfl,r,C⟩:=h
  simp only[List.all_cons,Bool.and_eq_true]at hs
  intro v hv
  simp at hv
  rcases hv with rfl|hv
  ·exact r.one hs.1
  ·exact gY.one C hs.2 v hv
theorem aaI(l i:List Value)(k:Nat)(r:k+i.length≤l.length)(j:Nat):(l.take k++i++l.drop (k+i.length))[j]? =(splice l k i)[j]? :=by
 rw[lp]
 grind
theorem DL(l i:List Value)(k:Nat)(r:k+i.length≤l.length):l.take k++i++l.drop (k+i.length)=splice l k i:=by
 apply List.ext_getElem?;intro j;exact aaI l i k r j
section
variable{P:Program}{B:lS}{st:St}{a:Act}{w:World}{β:iJ}{M:im}{o:Oper}{v:T}{ups:List Up}
theorem z7(h:iP B st w β M){sp:Sp}{k g wm:Nat}{cs:List T}{bx:Bool}(N:st.get sp k=⟨g,.cells cs wm bx⟩)(i:Nat)(O:g≤i){c:Array Value}{el:TypeId}
  (U:w.heap[(β sp k g).blk]? =some (.cells c el (0,0))) (off:Nat) (r:List Value) (Tp:List T) (J4:wm≤off) (J5:off+r.length≤(β sp k g).ext) (hle:wm≤Tp.length) (V:Tp.length≤(β sp k g).ext) (hs:Tp.all single=true)
  (hl:pW sp bx β st.gens w M Tp ((splice (c.toList.drop (β sp k g).off) off r).take Tp.length)):
  iP B (st.up (sp,k,⟨i,.cells Tp wm bx⟩)) (setBlock w (β sp k g).blk (.cells (splice c.toList ((β sp k g).off+off) r).toArray el)) (nM β sp k i (β sp k g)) M∧
  Tr st w β M (st.up (sp,k,⟨i,.cells Tp wm bx⟩)) (setBlock w (β sp k g).blk (.cells (splice c.toList ((β sp k g).off+off) r).toArray el)) (nM β sp k i (β sp k g)) M:=by
 have W:st.gens sp k=g:=by show(st.get sp k).g=g;rw[N]
 have H:live (st.get sp k):=by rw[N];trivial
 have X:=h.obj sp k
 rw[N]at X
 unfold kQ at X
 obtain⟨c0,el0,fz0,K,h2,h3,h4,h5,Y,h7,h8⟩:=X
 dsimp only at K h2 h3 h4 Y
 rw[U]at K
 simp at K
 obtain⟨rfl,rfl,rfl⟩:=K
 have I:=qV U
 have hk:kM w M (setBlock w (β sp k g).blk (.cells (splice c.toList ((β sp k g).off+off) r).toArray el)) M:=by
  refine⟨fun b x u E F=> ?_,fun b es cl E F=> ?_,fun _ _ _ h=>h⟩
  ·by_cases Tq:b=(β sp k g).blk
   ·subst Tq
    unfold World.cell? at E ⊢
    rw[U]at E
    rw[jV,if_pos ⟨rfl,I⟩]
    simp at E ⊢
    rw[lp,if_neg]
    ·simpa using E
    ·rintro⟨q1,q2,q3⟩
     apply F
     have:=Y (x-(β sp k g).off) (by omega) (by omega)
     rwa [show(β sp k g).off+(x-(β sp k g).off)=x by omega]at this
   ·rw[ov (w:=w) (by rw[jV,if_neg (fun e=>Tq e.1)])];exact E
  grind [jV]
 have VW: ∀C k' D,D≤st.gens C k'→nM β sp k i (β sp k g) C k' D=β C k' D:=by
  grind [jv,zO]
 have hG: ∀C k',st.gens C k'≤(st.up (sp,k,⟨i,.cells Tp wm bx⟩)).gens C k':=by
  intro C k';rw[lu];split
  ·grind
  ·grind
 have J:=OM (M':=M) h sp k i (.cells Tp wm bx) H (by rw[W];exact O) (.cells (splice c.toList ((β sp k g).off+off) r).toArray el) (fun _ _ F=>F) (fun _ _ _ F=>F) (by rw[W];exact hk) (h.base H)
 rw[W]at J
 refine J ?_
 unfold kQ
 simp only[jv]
 refine⟨_,el,(0,0),by rw[jV,if_pos ⟨rfl,I⟩],by simp[jW];omega,V,rfl, ?_,Y,hs,by omega⟩
 have Z:(splice c.toList ((β sp k g).off+off) r).drop (β sp k g).off=splice (c.toList.drop (β sp k g).off) off r:=by
  apply List.ext_getElem?
  grind [lp,List.length_drop]
 simp only[List.toList_toArray]at Z ⊢
 grind [pW.mono]
variable(kY:qH β st.gens w M st.rho a.eval)(h:iP B st w β M)
include h
omit h in
theorem Gv{M':im}{us:List Up}{t:TypeId}{n:Nat}{x y:Operand}{sp:Sp}{k g off wm:Nat}{cs:List T}{bx:Bool}{ts:List T}(Y:o.op= .store t x y)(Z:lH P t=some n)(K:iP B (st.ups us) w β M')(I:Tr st w β M (st.ups us) w β M')
  (hx:a.eval x= .pointer (some ⟨(β sp k g).blk,(β sp k g).off+off,none⟩)) (N:(st.ups us).get sp k=⟨g,.cells cs wm bx⟩) (J4:wm≤off) (hle:off+n≤cs.length) (O:ts.length=n) (hs:ts.all single=true)
  (C:pW sp bx β (st.ups us).gens w M' ts (a.eval y).cells.toList):
  lz P B st a w β M o iY (us++ [(sp,k,⟨g,.cells (splice cs off ts) wm bx⟩)]):=by
 have Cx:=K.obj sp k
 rw[N]at Cx
 unfold kQ at Cx
 obtain⟨c,el,fz,D,h2,U,V,E,h6,h7,h8⟩:=Cx
 dsimp only at D h2 U V E h6
 subst V
 have r:gY β (st.ups us).gens w M' ts (a.eval y).cells.toList:=C.toV
 have J:=gY.length _ _ r
 have VY:=gY.one r hs
 have F:=run_storeCells_at P (β sp k g).blk ((β sp k g).off+off) el (a.eval y).cells.toList 0 c w D (by simp at J ⊢; omega) VY
 rw[qu D]at F
 simp only[Nat.add_zero]at F
 rw[DL _ _ _ (by simp at J ⊢; omega)]at F
 have i:=z7 K N g (Nat.le_refl _) D off (a.eval y).cells.toList (splice cs off ts) J4 (by omega) (by rw[jW];omega) (by rw[jW];exact U) (nZ h7 hs) (by
  rw[jW]
  have VZ:(splice (c.toList.drop (β sp k g).off) off (a.eval y).cells.toList).take cs.length=splice ((c.toList.drop (β sp k g).off).take cs.length) off (a.eval y).cells.toList:=by
   apply List.ext_getElem?
   intro j
   rw[List.getElem?_take,lp,lp,List.getElem?_take,List.length_take]
   by_cases H:j<cs.length
   ·rw[if_pos H,if_pos H]
    by_cases W:off≤j∧j<off+(a.eval y).cells.toList.length∧j<(c.toList.drop (β sp k g).off).length
    ·rw[if_pos W,if_pos (by omega)]
    ·rw[if_neg W,if_neg (by omega)]
   ·rw[if_neg H,if_neg H,if_neg (by omega)]
  rw[VZ]
  cases bx
  ·exact PList.splice E C
  ·cases sp
   ·exact gY.splice E C
   ·exact fun X G' p q=>gY.splice (E X G' p q) (C X G' p q))
 rw[tH]at i
 refine⟨.skip,undef,setBlock w (β sp k g).blk (.cells (splice c.toList ((β sp k g).off+off) (a.eval y).cells.toList).toArray el),β,M', ?_,.inr ⟨rfl,rfl⟩, ?_, ?_,by rw[kB];exact Nat.le_refl _, ?_⟩
 ·have OZ:(a.eval y).cells.size=n:=by simp at J;omega
  simp[execOp,Y,hx,Instr.storeAt,Instr.sureAddr,storeVar,nn Z,OZ,F]
 ·rw[kO];exact i.1
 ·rw[kO];exact I.trans i.2 (Nat.le_refl _)
 ·simp[gW,iY,undef,gY]
include kY
theorem aqg{d:Nat}{t:TypeId}{n:Nat}{x y:Operand}{H C:iz}(O:o.op= .store t x y)(hx:lP x=some H)(hy:lP y=some C)(U:lH P t=some n)
  (i:(jf d st.rho (.st H C n)).run st.get st.sh.length=some (.val v ups)):lz P B st a w β M o v ups:=by
 have F:=kY x H hx
 have V:=kY y C hy
 simp only[jf,vS]at i
 split at i
 ·simp[Q.run]at i
 ·rename_i W
  simp at W
  obtain⟨D,I⟩:=W
  split at i
  ·rename_i sp k g off ex
   rw[ex]at F
   simp only[gW]at F
   simp only[Q.run]at i
   split at i
   ·rename_i X
    generalize Y:st.get sp k=e at*
    obtain⟨ge,ob⟩:=e
    dsimp only at X;subst X
    cases ob with
    |none=>simp[Q.run]at i
    |map _ _ _=>simp[Q.run]at i
    |cells cs wm bx=>
     dsimp only at i
     split at i
     ·rename_i J4
      simp at J4
      split at i
      ·rename_i ZU
       simp at ZU
       obtain⟨rfl,rfl⟩:=ZU
       simp[Q.run]at i;obtain⟨rfl,rfl⟩:=i
       obtain⟨k1,k2⟩:=uT V I
       exact Gv (us:= []) O U h (Tr.refl _ _ _ _) F.2 Y J4.1 J4.2 D k2 k1
      ·rename_i ZU
       simp only[Q.run_bind]at i
       cases J:(fz (bx&&sp== .S) iB (st.rho C)).run st.get st.sh.length with
       |none=>simp[J]at i
       |some p=>
        obtain⟨t',us⟩:=p
        simp only[J,Option.bind_some]at i
        split at i
        ·simp[Q.run]at i
        ·rename_i Z
         simp at Z
         obtain⟨⟨K,r⟩,N⟩:=Z
         simp[Q.run]at i;obtain⟨rfl,rfl⟩:=i
         obtain⟨M',q1,q2,q3,E,q5⟩:=B2 _ st iB (st.rho C) B st w β M _ t' us _ (Fz.refl st) h V J
         have O0:(st.ups us).get sp k=⟨ge,.cells cs wm bx⟩:=by rw[qX st us sp k K];exact Y
         refine Gv (us:=us) O U q1 (Tr.fz q2 q3) F.2 O0 J4.1 J4.2 N ?_ ?_
         ·exact(uT E.toV r).2
         ·cases bx with
          |false=>
           simp only[Bool.false_and]at E
           exact(zV E r).1
          |true=>
           cases sp with
           |L=>simp at ZU
           |S=>
            simp only[Bool.true_and,beq_self_eq_true]at E
            rw[q2.gens]
            exact fun iM G' p q=>(uT (E iM G' p q) r).1
     ·simp[Q.run]at i
   ·simp[Q.run]at i
  ·simp[Q.run]at i
end
end Go.Ev
namespace Go.Ev
open Go
section
variable{P:Program}{B:lS}{st:St}{a:Act}{w:World}{β:iJ}{M:im}{o:Oper}{v:T}{ups:List Up}
variable(kY:qH β st.gens w M st.rho a.eval)(h:iP B st w β M)
theorem MC{t N et:TypeId}{ek:EK}{m:Option Nat}{E:Array MapEntry}{D:Nat}{ks vs:List T}{k z r:T}{kv O:Value}{J:Bool}(ht:P.underlying t=some (.map N et))(U:keyOf P N=some ek)
  (hm:(m=none∧E= #[])∨ ∃F,m=some F∧w.heap[F]? =some (.map E D)) (K:PList w M ks (E.toList.map (·.key))) (V:PList w M vs (E.toList.map (·.val))) (I:gW β st.gens w M k kv) (hz:(zeroValue et).run P w= .ok O w) (hzr:PRel w M z O)
  (H:nX ek ks vs k z J=some r): ∃cv,(Instr.lookup t (.map m) kv J).run P w= .ok cv w∧gW β st.gens w M r cv:=by
 unfold nX at H
 split at H
 ·cases H
 ·rename_i OW
  simp at OW
  have ZR:(Instr.checkKey E.isEmpty 10000 N kv).run P w= .ok () w:=B3 (P:=P) U I OW 9998 E.isEmpty
  have W: ∀C,(Instr.findKey N kv E.toList).run P w= .ok C w→(Instr.lookup t (.map m) kv J).run P w=
    .ok (match C with|some (_,cv)=>if J then .tuple #[cv,.bool true]else cv|none=>if J then .tuple #[O,.bool false]else O) w:=by
   intro C z8
   unfold Instr.lookup
   rcases hm with⟨rfl,rfl⟩|⟨F,rfl,hb⟩
   ·simp only[Sem.run_bind,run_underlying ht,Result.andThen_ok,Sem.run_pure,ZR,z8]
    cases C with
    |none=>simp[hz]
    |some p=>simp
   ·have Aa:(getObj F).run P w= .ok (.map E D) w:=by simp[getObj,Sem.run,hb]
    simp only[Sem.run_bind,run_underlying ht,Result.andThen_ok,Sem.run_pure,Aa,ZR,z8]
    cases C with
    |none=>simp[hz]
    |some p=>simp
  split at H
  ·rename_i i X
   obtain⟨C,r1,Y⟩:=uS (P:=P) U I E.toList ks _ K X
   obtain⟨e,e1,e2⟩:=Y
   simp only[Option.map_eq_some_iff]at H
   obtain⟨v',Z,rfl⟩:=H
   obtain⟨cv,c1,c2⟩:=V.get Z
   grind [gW,gY,PRel.toV]
  ·rename_i X
   simp at H;subst H
   obtain⟨C,r1,Y⟩:=uS (P:=P) U I E.toList ks _ K X
   refine⟨_,W C r1, ?_⟩
   have:C=none:=Y
   grind [gW,gY,PRel.toV]
  ·cases H
include kY h
theorem aqi{d nx:Nat}{t kt et:TypeId}{m k:Operand}{X k':iz}{K:Bool}{N:EK}{z:T}(ho:o.op= .lookup t m k K)(hm:lP m=some X)(hk:lP k=some k')(ht:P.underlying t=some (.map kt et))(Y:keyOf P kt=some N)(hz:tE P et=some z)
  (C:(jf d st.rho (.lk N X k' z K)).run st.get nx=some (.val v ups)):lz P B st a w β M o v ups:=by
 have D:=kY m X hm
 have vk:=kY k k' hk
 obtain⟨zv,z1,z2⟩:=Gt hz w
 have I: ∀(W:Option Nat) (E:Array MapEntry) (i:Nat) (ks F:List T) (r:T),a.eval m= .map W→((W=none∧E= #[])∨ ∃H,W=some H∧w.heap[H]? =some (.map E i))→PList w M ks (E.toList.map (·.key))→PList w M F (E.toList.map (·.val))→
   nX N ks F (st.rho k') z K=some r→lz P B st a w β M o r []:=by
  intro W E i ks F r Z O U V e5
  obtain⟨cv,r1,r2⟩:=MC (P:=P) (β:=β) (st:=st) ht Y O U V vk z1 (z2 w M) e5
  exact iL h (cv:=cv) (by simp[execOp,ho,Z,r1]) r2
 simp only[jf]at C
 split at C
 ·rename_i e
  rw[e]at D;simp only[gW]at D
  split at C
  ·rename_i OW
   simp[Q.run]at C;obtain⟨rfl,rfl⟩:=C
   exact I none #[] 0 [] [] _ D (.inl ⟨rfl,rfl⟩) (by simp[PList]) (by simp[PList]) (by simp[nX,OW,nz])
  ·simp[Q.run]at C
 ·rename_i ks F e
  rw[e]at D;simp only[gW,PRel]at D
  obtain⟨H,E,i,Z,O,_,_,U,V⟩:=D
  cases J:nX N ks F (st.rho k') z K with
  |none=>simp[J,Ev.val,Q.run]at C
  |some r=>
   simp[J,Ev.val,Q.run]at C;obtain⟨rfl,rfl⟩:=C
   exact I _ E i ks F _ Z (.inr ⟨H,rfl,O⟩) U V J
 ·rename_i sp kk g e
  rw[e]at D;simp only[gW]at D
  simp only[Q.run]at C
  split at C
  ·rename_i hg
   have Cx:=h.obj sp kk
   generalize he:st.get sp kk=en at*
   obtain⟨ge,ob⟩:=en
   dsimp only at hg;subst hg
   cases ob with
   |none=>simp[Q.run]at C
   |cells _ _ _=>simp[Q.run]at C
   |map ks F f=>
    dsimp only at C
    unfold kQ at Cx
    obtain⟨E,i,O,_,U,V,_⟩:=Cx
    cases J:nX N ks F (st.rho k') z K with
    |none=>simp[J,Ev.val,Q.run]at C
    |some r=>
     simp[J,Ev.val,Q.run]at C;obtain⟨rfl,rfl⟩:=C
     exact I _ E i ks F _ D.2 (.inr ⟨_,rfl,O⟩) U V J
  ·simp[Q.run]at C
 ·simp[Q.run]at C
omit kY h
theorem PList.set{ts:List T}{r:List Value}(i:Nat){t:T}{cv:Value}(h:PList w M ts r)(C:PRel w M t cv):PList w M (ts.set i t) (r.set i cv):=by
 induction ts generalizing r i with
 |nil=>grind [PList]
 |cons x xs ih=>
  simp only[PList]at h
  obtain⟨u,us,rfl,D,E⟩:=h
  cases i with
  |zero=>grind [PList]
  |succ i=>grind [PList]
theorem yn{c:CK}{x y:T}{C D:Value}(i:gW β st.gens w M x C)(r:gW β st.gens w M y D)(h:lN c x y=some true)(n:Nat):Instr.sameBits n D C=true:=by
 unfold lN at h
 split at h
 ·simp at h;subst h;rw[i.bool,r.bool];simp[Instr.sameBits]
 ·split at h
  ·rename_i e;subst e;simp at h;subst h;rw[i.int,r.int];simp[Instr.sameBits]
  ·cases h
 ·simp at h;subst h
  obtain⟨E,F,H⟩:=i.str
  obtain⟨I,J,K⟩:=r.str
  rw[F,J]
  have:(I==E)=true:=by
   rw[beq_toListBytes,←mV,←kC,←kC,H,K];simp
  grind [Instr.sameBits]
 ·cases h
theorem wC: ∀{ks:List CK} {xs i:List T} {r C:List Value},gY β st.gens w M xs r→gY β st.gens w M i C→jX ks xs i=some true→ ∀n,r.length=C.length∧((C.zip r).all fun p=>Instr.sameBits n p.1 p.2)=true
 | [],xs,i,r,C,E,F,h,n=>by
   cases xs <;> cases i <;> simp[jX]at h
   simp_all[gY]
 |k::ks,xs,i,r,C,E,F,h,n=>by
  cases xs with
  |nil=>grind [jX]
  |cons x xs=>
   cases i with
   |nil=>simp[jX]at h
   |cons y i=>
    simp only[gY]at E F
    obtain⟨u,us,rfl,H,I⟩:=E
    obtain⟨O,J,rfl,K,B6⟩:=F
    simp only[jX]at h
    cases D:lN k x y with
    |none=>simp[D]at h
    |some b=>
     cases b with
     |false=>simp[D]at h
     |true=>
      simp only[D]at h
      obtain⟨U,N⟩:=wC I B6 h n
      simp only[List.length_cons,List.zip_cons_cons,List.all_cons,Bool.and_eq_true]
      exact⟨by omega,yn H K D n,N⟩
theorem HQ{i:EK}{x y:T}{D E:Value}(F:(∃c,i= .one c)∨ ∃ks,i= .flat ks)(r:gW β st.gens w M x D)(C:gW β st.gens w M y E)(h:xV i x y=some true)(n:Nat):Instr.sameBits (n+1) E D=true:=by
 rcases F with⟨c,rfl⟩|⟨ks,rfl⟩
 ·exact yn r C h _
 ·unfold xV at h
  split at h <;> simp_all
  rename_i xs J
  simp only[gW]at r C
  obtain⟨K,rfl,H,_⟩:=r
  obtain⟨N,rfl,I,_⟩:=C
  obtain⟨O,U⟩:=wC H I h n
  simp_all[Instr.sameBits,Bool.and_eq_true]
theorem J6{D:EK}{k:T}: ∀{ks:List T} {i:Nat},nz D k ks=some (some i)→ ∃x,ks[i]? =some x∧xV D k x=some true
 | [],i,h=>by simp[nz]at h
 |x::xs,i,h=>by
  simp only[nz]at h
  split at h
  ·grind
  ·simp only[Option.map_eq_some_iff]at h
   obtain⟨r,E,C⟩:=h
   cases r with
   |none=>simp at C
   |some j=>
    simp at C;subst C
    simp_all[J6]
  ·cases h
theorem B7{c:CK}{x y:T}{E F:Value}(i:gW β st.gens w M x E)(r:gW β st.gens w M y F)(h:lN c x y=some true):E=F:=by
 unfold lN at h
 split at h
 ·simp at h;subst h;rw[i.bool,r.bool]
 ·split at h
  ·rename_i e;subst e;simp at h;subst h;rw[i.int,r.int]
  ·cases h
 ·simp at h;subst h
  obtain⟨C,H,I⟩:=i.str
  obtain⟨D,J,K⟩:=r.str
  rw[H,J]
  have N:jT C=jT D:=I.trans K.symm
  have O:C.data.toList=D.data.toList:=(List.map_inj_right (f:=UInt8.toNat) (fun _ _ h=>UInt8.toNat_inj.1 h)).1 N
  have U:C=D:=ByteArray.ext (Array.toList_inj.1 O)
  rw[U]
 ·cases h
theorem Ab: ∀{ks:List CK} {xs i:List T} {r C:List Value},gY β st.gens w M xs r→gY β st.gens w M i C→jX ks xs i=some true→r=C
 | [],xs,i,r,C,E,F,h=>by
   grind [jX,gY]
 |k::ks,xs,i,r,C,E,F,h=>by
  cases xs with
  |nil=>grind [jX]
  |cons x xs=>
   cases i with
   |nil=>simp[jX]at h
   |cons y i=>
    simp only[gY]at E F
    obtain⟨u,us,rfl,H,I⟩:=E
    obtain⟨N,J,rfl,K,B6⟩:=F
    simp only[jX]at h
    cases D:lN k x y with
    |none=>simp[D]at h
    |some b=>
     cases b with
     |false=>simp[D]at h
     |true=>
      simp only[D]at h
      rw[B7 H K D,Ab I B6 h]
theorem V0{i:EK}{x y:T}{D E:Value}(F:(∃c,i= .one c)∨ ∃ks,i= .flat ks)(r:gW β st.gens w M x D)(C:gW β st.gens w M y E)(h:xV i x y=some true):D=E:=by
 rcases F with⟨c,rfl⟩|⟨ks,rfl⟩
 ·exact B7 r C h
 ·unfold xV at h
  split at h <;> simp_all
  rename_i xs J
  simp only[gW]at r C
  obtain⟨K,rfl,H,_⟩:=r
  obtain⟨N,rfl,I,_⟩:=C
  have:=Ab H I h
  simp_all
theorem Ac{c:CK}{x y:T}{v:Value}(i:gW β st.gens w M x v)(r:gW β st.gens w M y v)(h:lN c x y=some false):False:=by
 unfold lN at h
 split at h
 ·have e:=i.bool;rw[r.bool]at e;cases e;simp at h
 ·split at h
  ·rename_i e;subst e
   have e:=i.int;rw[r.int]at e;cases e;simp at h
  ·cases h
 ·obtain⟨C,D,E⟩:=i.str
  obtain⟨F,H,I⟩:=r.str
  grind
 ·cases h
theorem yo: ∀{ks:List CK} {xs i:List T} {v:List Value},gY β st.gens w M xs v→gY β st.gens w M i v→jX ks xs i=some false→False
 | [],xs,i,v,r,C,h=>by
   grind [jX]
 |k::ks,xs,i,v,r,C,h=>by
  cases xs with
  |nil=>grind [jX]
  |cons x xs=>
   cases i with
   |nil=>simp[jX]at h
   |cons y i=>
    simp only[gY]at r C
    obtain⟨u,us,rfl,E,F⟩:=r
    obtain⟨J,H,e,I,B6⟩:=C
    cases e
    simp only[jX]at h
    cases D:lN k x y with
    |none=>simp[D]at h
    |some b=>
     cases b with
     |false=>exact Ac E I D
     |true=>
      simp only[D]at h
      exact yo F B6 h
theorem Ri{i:EK}{x y:T}{v:Value}(D:(∃c,i= .one c)∨ ∃ks,i= .flat ks)(r:gW β st.gens w M x v)(C:gW β st.gens w M y v)(h:xV i x y=some false):False:=by
 rcases D with⟨c,rfl⟩|⟨ks,rfl⟩
 ·exact Ac r C h
 ·unfold xV at h
  split at h <;> simp_all
  rename_i xs H
  simp only[gW]at r C
  obtain⟨I,rfl,E,_⟩:=r
  obtain⟨J,e,F,_⟩:=C
  cases e
  exact yo E F h
theorem DM{i:EK}{k:T}: ∀{ks:List T},nz i k ks=some none→ ∀x∈ks,xV i k x=some false
 | [],h,x,hx=>by simp at hx
 |y::F,h,x,hx=>by
  simp only[nz]at h
  split at h
  ·simp at h
  ·rename_i C
   simp only[Option.map_eq_some_iff]at h
   obtain⟨r,D,E⟩:=h
   cases r with
   |some j=>simp at E
   |none=>
    rcases List.mem_cons.1 hx with rfl|hx
    ·exact C
    ·exact DM D x hx
  ·cases h
theorem PList.getV{w:World}{M:im}: ∀{ts:List T} {i:List Value},PList w M ts i→ ∀{j:Nat} {v:Value},i[j]? =some v→ ∃t,ts[j]? =some t∧PRel w M t v
 | [],i,h,j,v,r=>by grind [PList]
 |x::xs,i,h,j,v,r=>by
  simp only[PList]at h
  obtain⟨u,us,rfl,F,C⟩:=h
  cases j with
  |zero=>grind
  |succ j=>obtain⟨t,D,E⟩:=PList.getV C (j:=j) (v:=v) (by simpa using r);exact⟨t,by simpa using D,E⟩
theorem af7(h:iP B st w β M){sp:Sp}{k g:Nat}{ks X:List T}(H:st.get sp k=⟨g,.map ks X false⟩)(J7:Array MapEntry)(C:Nat)(I:MapKept.Stamped J7 C)(i Bg:List T)(Y:PList w M i (J7.toList.map (·.key)))(Z:PList w M Bg (J7.toList.map (·.val))):
  iP B (st.up (sp,k,⟨g,.map i Bg false⟩)) (setBlock w (β sp k g).blk (.map J7 C)) β M∧Tr st w β M (st.up (sp,k,⟨g,.map i Bg false⟩)) (setBlock w (β sp k g).blk (.map J7 C)) β M:=by
 have J:st.gens sp k=g:=by show(st.get sp k).g=g;rw[H]
 have D:live (st.get sp k):=by rw[H];trivial
 have K:=h.obj sp k
 rw[H]at K
 unfold kQ at K
 obtain⟨es,N,U,_,h2,h3,V⟩:=K
 dsimp only at U V
 have O:=qV U
 have r:kM w M (setBlock w (β sp k g).blk (.map J7 C)) M:=by
  refine⟨fun b x u W E=> ?_,fun b es cl W E=> ?_,fun _ _ _ h=>h⟩
  ·by_cases Tq:b=(β sp k g).blk
   ·grind
   ·rw[ov (w:=w) (by rw[jV,if_neg (fun e=>Tq e.1)])];exact W
  ·by_cases Tq:b=(β sp k g).blk
   ·simp_all
   ·grind [jV]
 have F:=OM (M':=M) h sp k g (.map i Bg false) D (Nat.le_of_eq J) (.map J7 C) (fun _ _ E=>E) (fun _ _ _ E=>E) (by rw[J];exact r) (h.base D)
 rw[J,tH]at F
 refine F ?_
 exact⟨J7,C,by rw[jV,if_pos ⟨rfl,O⟩],I,PList.mono r _ _ Y,PList.mono r _ _ Z,V⟩
include kY h
theorem aqj{d:Nat}{t kt et:TypeId}{m k x:Operand}{m' k' Z:iz}{ek:EK}(ho:o.op= .mapUpdate t m k x)(hm:lP m=some m')(hk:lP k=some k')(hx:lP x=some Z)(ht:P.underlying t=some (.map kt et))(H:keyOf P kt=some ek)
  (r:(jf d st.rho (.mu ek m' k' Z)).run st.get st.sh.length=some (.val v ups)):lz P B st a w β M o v ups:=by
 have vm:=kY m m' hm
 have vk:=kY k k' hk
 have vx:=kY x Z hx
 simp only[jf]at r
 split at r
 ·rename_i sp kk g e
  rw[e]at vm;simp only[gW]at vm
  simp only[Q.run]at r
  split at r
  ·rename_i hg
   simp at hg
   obtain⟨hg,OW⟩:=hg
   generalize he:st.get sp kk=en at*
   obtain⟨F,ob⟩:=en
   dsimp only at hg;subst hg
   split at r
   ·rename_i ks J heq
    dsimp only at heq;subst heq
    simp only[Q.run_bind]at r
    cases hz:(fz false iB (st.rho Z)).run st.get st.sh.length with
    |none=>simp[hz]at r
    |some p=>
     obtain⟨t',us⟩:=p
     simp only[hz,Option.bind_some]at r
     split at r
     ·rename_i q N
      split at r
      ·simp[Q.run]at r
      ·rename_i hh
       simp at hh
       simp[Q.run]at r;obtain⟨rfl,rfl⟩:=r
       obtain⟨M',q1,q2,q3,q4,q5⟩:=B2 _ st iB (st.rho Z) B st w β M _ t' us _ (Fz.refl st) h vx hz
       have q4':PRel w M' t' (a.eval x):=q4
       have O0:(st.ups us).get sp kk=⟨F,.map ks J false⟩:=by rw[qX st us sp kk hh];exact he
       have Cx:=q1.obj sp kk
       rw[O0]at Cx
       unfold kQ at Cx
       obtain⟨D,clock,e2,qW,X,e4,_⟩:=Cx
       dsimp only at e2
       have ZV:gW β st.gens w M' (st.rho k') (a.eval k):=gW.mono (kl q3) (fun _ _ _ _=>rfl) (fun _ _=>Nat.le_refl _) _ _ vk
       have ZR:(Instr.checkKey false 10000 kt (a.eval k)).run P w= .ok () w:=B3 (P:=P) H ZV OW 9998 false
       obtain⟨_,sD⟩:=MA H
       have kp:PRel w M' (st.rho k') (a.eval k):=by
        generalize st.rho k'=tk at*
        cases tk <;> rcases sD with⟨c,rfl⟩|⟨cs,rfl⟩ <;> (try (cases c)) <;> simp[isKey,HI]at OW
        all_goals first
         |(simp only[gW]at ZV;simp only[PRel];exact ZV;done)
         |skip
        rename_i xs
        simp only[gW]at ZV
        obtain⟨arr,e5,l5,s5⟩:=ZV
        simp only[PRel]
        refine⟨arr,e5, ?_,s5⟩
        have: ∀(cs:List CK) (xs:List T) (J:List Value),qU cs xs=true→gY β st.gens w M' xs J→PList w M' xs J:=by
         intro cs
         induction cs with
         |nil=>intro xs J Y hv;cases xs <;> simp[qU]at Y;simpa only[gY,PList]using hv
         |cons c cs ih=>
          intro xs J Y hv
          cases xs with
          |nil=>simp[qU]at Y
          |cons x xs=>
           simp only[qU,Bool.and_eq_true]at Y
           simp only[gY]at hv;simp only[PList]
           obtain⟨u,us,rfl,w1,w2⟩:=hv
           refine⟨u,us,rfl, ?_,ih xs us Y.2 w2⟩
           cases c <;> cases x <;> simp[HI]at Y <;> simp only[gW]at w1 <;> simp only[PRel] <;> exact w1
        exact this _ _ _ OW l5
       have run: ∀(C:Option (Nat×Value)) (J7:Array MapEntry) (rG:Nat),(Instr.findKey kt (a.eval k) D.toList).run P w= .ok C w→
         (match C with
           |some (i,_)=>do
            let key ←Instr.keyThatStays (((D[i]?).map (fun e:MapEntry=>e.key)).getD (a.eval k)) (a.eval k)
            setObj (β sp kk F).blk (.map (D.modify i fun e=>{e with key,val:=a.eval x}) clock)
           |none=>setObj (β sp kk F).blk (.map (D.push {key:=a.eval k,val:=a.eval x,born:=clock}) (clock+1))).run P w= .ok () (setBlock w (β sp kk F).blk (.map J7 rG))→
         (execOp a.eval o).run P w= .ok .skip (setBlock w (β sp kk F).blk (.map J7 rG)):=by
        intro C J7 rG z8 J8
        have:(Instr.mapUpdate t (.map (some (β sp kk F).blk)) (a.eval k) (a.eval x)).run P w= .ok () (setBlock w (β sp kk F).blk (.map J7 rG)):=by
         unfold Instr.mapUpdate
         simp only[Sem.run_bind,run_underlying ht,Result.andThen_ok]
         have Aa:(getObj (β sp kk F).blk).run P w= .ok (.map D clock) w:=by simp[getObj,Sem.run,e2]
         simp only[Aa,Result.andThen_ok,Sem.run_bind,ZR,z8]
         cases C with
         |none=>exact J8
         |some p=>exact J8
        simp[execOp,ho,vm.2,this]
       have J8: ∀(J7:Array MapEntry) (c':Nat),(setObj (β sp kk F).blk (.map J7 c')).run P w= .ok () (setBlock w (β sp kk F).blk (.map J7 c')):=by
        intro J7 c';simp[setObj,Sem.run,e2,setBlock]
       unfold rB at N
       split at N
       ·rename_i i hf
        simp at N;subst N
        obtain⟨C,r1,e,K,r3⟩:=uS (P:=P) H ZV D.toList ks _ X hf
        obtain⟨kx,O,E⟩:=J6 hf
        obtain⟨kcv,I,kc2⟩:=X.get O
        rw[List.getElem?_map,K]at I
        simp at I
        have hsb:=HQ (β:=β) (st:=st) sD ZV (PRel.toV β st.gens _ _ kc2) E 9999
        have hei:D[i]? =some e:=by simpa using K
        simp only[Nat.zero_add]at r3
        have hkt:(Instr.keyThatStays (((D[i]?).map (fun e:MapEntry=>e.key)).getD (a.eval k)) (a.eval k)).run P w= .ok (a.eval k) w:=by
         rw[hei];simp only[Option.map_some,Option.getD_some,I]
         unfold Instr.keyThatStays
         rw[if_pos hsb];rfl
        obtain⟨U,V⟩:=af7 q1 O0 (D.modify i fun e=>{e with key:=a.eval k,val:=a.eval x}) clock (MapKept.stamped_modify qW i _ (fun _ _=>rfl) (fun e' _ ZS=>by
         have hh:e'=e:=by rw[hei]at ZS;exact(Option.some.inj ZS).symm
         subst hh
         exact(V0 sD ZV (PRel.toV β st.gens _ _ kc2) E).trans I.symm)) (ks.set i (st.rho k')) (J.set i t') (by
         have:=PList.set i X kp
         have e5:(D.modify i fun e=>{e with key:=a.eval k,val:=a.eval x}).toList.map (·.key)=(D.toList.map (·.key)).set i (a.eval k):=by
          apply List.ext_getElem?;intro j
          rw[Array.toList_modify,List.getElem?_map,List.getElem?_modify,List.getElem?_set,List.getElem?_map]
          by_cases W:i=j
          ·subst W;rw[K];simp;exact(List.getElem?_eq_some_iff.1 K).1
          ·simp[W]
         rw[e5];exact this) (by
         have:=PList.set i e4 q4'
         have e5:(D.modify i fun e=>{e with key:=a.eval k,val:=a.eval x}).toList.map (·.val)=(D.toList.map (·.val)).set i (a.eval x):=by
          apply List.ext_getElem?;intro j
          rw[Array.toList_modify,List.getElem?_map,List.getElem?_modify,List.getElem?_set,List.getElem?_map]
          by_cases W:i=j
          ·subst W;rw[K];simp;exact(List.getElem?_eq_some_iff.1 K).1
          ·simp[W]
         rw[e5];exact this)
        refine⟨.skip,undef,_,β,M',run C _ clock r1 ?_,.inr ⟨rfl,rfl⟩,by rw[kO];exact U,by rw[kO];exact(Tr.fz q2 q3).trans V (Nat.le_refl _),by rw[kB];exact Nat.le_refl _,by simp[gW,iY,undef,gY]⟩
        subst r3
        simp only[Sem.run_bind,hkt,Result.andThen_ok]
        exact J8 _ _
       ·rename_i hf
        simp at N;subst N
        obtain⟨C,r1,K⟩:=uS (P:=P) H ZV D.toList ks _ X hf
        have:C=none:=K
        subst this
        obtain⟨U,V⟩:=af7 q1 O0 (D.push {key:=a.eval k,val:=a.eval x,born:=clock}) (clock+1) (MapKept.stamped_push qW (fun y hy ZS=>by
         obtain⟨j,W⟩:=List.getElem?_of_mem hy
         obtain⟨kx,O,E⟩:=X.getV (j:=j) (v:=y.key) (by rw[List.getElem?_map,W];rfl)
         rw[ZS]at E
         exact Ri sD ZV (PRel.toV β st.gens _ _ E) (DM hf _ (List.mem_of_getElem? O)))) (ks++ [st.rho k']) (J++ [t']) (by
         simp only[Array.toList_push,List.map_append,List.map_cons,List.map_nil]
         exact PList.append X (by simp only[PList];exact⟨_,_,rfl,kp,rfl⟩)) (by
         simp only[Array.toList_push,List.map_append,List.map_cons,List.map_nil]
         exact PList.append e4 (by simp only[PList];exact⟨_,_,rfl,q4',rfl⟩))
        exact⟨.skip,undef,_,β,M',run none _ (clock+1) r1 (J8 _ _),.inr ⟨rfl,rfl⟩,by rw[kO];exact U,by rw[kO];exact(Tr.fz q2 q3).trans V (Nat.le_refl _),by rw[kB];exact Nat.le_refl _,by simp[gW,iY,undef,gY]⟩
       ·cases N
     ·simp[Q.run]at r
   ·simp[Q.run]at r
  ·simp[Q.run]at r
 ·simp[Q.run]at r
end
end Go.Ev
namespace Go.Ev
open Go
theorem Gw(Bk:Nat): ∀(r c:Nat),c≤Bk+(Bk+768)/4→Builtin.growBy Bk r c≤Bk+(Bk+768)/4
 |0,c,h=>by simpa[Builtin.growBy]using h
 |r+1,c,h=>by
  simp only[Builtin.growBy]
  split
  ·exact h
  ·exact Gw Bk r _ (by omega)
theorem aaL(HR To:Nat)(h:To<HR):Builtin.nextslicecap HR To≤2*HR+192:=by
 grind [Builtin.nextslicecap,Gw]
theorem Rj{HR To bytes:Nat}(h:To<HR)(i:HR*bytes≤1099511627776)(r:bytes≠0):Builtin.nextslicecap HR To*bytes≤281474976710656:=by
 have C:=Nat.mul_le_mul_right bytes (aaL HR To h)
 have D:bytes≤HR*bytes:=Nat.le_mul_of_pos_left bytes (by omega)
 grind
section
variable{P:Program}{B:lS}{st:St}{a:Act}{w:World}{β:iJ}{M:im}{o:Oper}{v:T}{ups:List Up}
theorem Fy(h:iP B st w β M){sz nx n:Nat}{x:T}{cx:Value}{xs:List T}(F:gW β st.gens w M x cx)(i:(jQ sz x).run st.get nx=some (n,xs)):
  ∃news:List Value,(∀w':World,w'.heap=w.heap→(Builtin.lenOf cx).run P w'= .ok n w'∧(Builtin.firstCells sz n cx).run P w'= .ok news.toArray w')∧PList w M xs news∧xs.all single=true∧xs.length=n*sz:=by
 unfold jQ at i
 split at i
 ·simp[Q.run]at i;obtain⟨rfl,rfl⟩:=i
  simp_all[gW,Builtin.lenOf,Builtin.firstCells,PList]
 ·rename_i cs len ex
  split at i
  ·rename_i J
   simp[Q.run]at i;obtain⟨rfl,rfl⟩:=i
   simp only[gW,PRel]at F
   obtain⟨K,off,N,sp,rfl,O,Y,h5,U⟩:=F
   obtain⟨V,H,e2,e3,e4⟩:=iH.load (P:=P) U
   refine⟨V,fun w' Z=>⟨by simp[Builtin.lenOf], ?_⟩,e3,e4,J⟩
   have:=run_loadCells_list (P:=P) w' ⟨K,off,sp⟩ V (fun j u C=>by
    rcases h5 with h5|h5
    ·grind [World.cell?,ll]
    ·exfalso
     have hz:len=0:=by omega
     have h0:V= []:=List.length_eq_zero_iff.1 (by rw[H,J,hz,Nat.zero_mul])
     subst h0;simp at C)
   rw[H,J]at this
   simp[Builtin.firstCells,this]
  ·simp[Q.run]at i
 ·rename_i sp k g off len D
  split at i
  ·rename_i W
   subst W
   simp only[Q.run]at i
   split at i
   ·rename_i hg
    have Cx:=h.obj sp k
    generalize he:st.get sp k=en at*
    obtain⟨I,ob⟩:=en
    dsimp only at hg;subst hg
    cases ob with
    |none=>simp[Q.run]at i
    |map _ _ _=>simp[Q.run]at i
    |cells cs wm bx=>
     cases bx with
     |true=>simp[Q.run]at i
     |false=>
      dsimp only at i
      split at i
      ·rename_i hle
       simp[Q.run]at i;obtain⟨rfl,rfl⟩:=i
       unfold kQ at Cx
       obtain⟨c,el,fz,O,Y,U,h4,h5,h6,h7,h8⟩:=Cx
       dsimp only at O Y U h5
       simp only[gW]at F
       obtain⟨q1,N,rfl,q2,q3⟩:=F
       have OR:=PList.take (len*D) (PList.drop off h5)
       rw[List.drop_take,List.drop_drop,List.take_take]at OR
       have X:min (len*D) (cs.length-off)=len*D:=by omega
       rw[X]at OR
       have r:((cs.drop off).take (len*D)).length=len*D:=by simp;omega
       refine⟨(c.toList.drop ((β sp k I).off+off)).take (len*D),fun w' Z=>⟨by simp[Builtin.lenOf], ?_⟩,OR,nN h7 _ _,r⟩
       have wD:=PList.length _ _ OR
       rw[r]at wD
       have:=run_loadCells_list (P:=P) w' ⟨(β sp k I).blk,(β sp k I).off+off,none⟩ ((c.toList.drop ((β sp k I).off+off)).take (len*D)) (fun j u C=>by
        rw[ll]
        rw[List.getElem?_take]at C
        split at C
        ·rw[List.getElem?_drop]at C
         unfold World.cell?;rw[Z,O];simpa using C
        ·cases C)
       rw[←wD]at this
       simp[Builtin.firstCells,this]
      ·simp[Q.run]at i
   ·simp[Q.run]at i
  ·simp[Q.run]at i
 ·rename_i l
  split at i
  ·rename_i W
   subst W
   simp[Q.run]at i;obtain⟨rfl,rfl⟩:=i
   obtain⟨E,rfl,rfl⟩:=F.str
   refine⟨E.data.toList.map fun b=> .int .u8 b.toNat,fun w' _=>⟨by simp[Builtin.lenOf,mC], ?_⟩, ?_, ?_,by simp⟩
   ·have H:(E.extract 0 E.size).data=E.data:=by
     apply Array.ext'
     rw[ByteArray.data_extract,Array.toList_extract,List.extract_eq_take_drop]
     rw[List.drop_zero]
     exact List.take_of_length_le (by show E.data.toList.length≤E.data.size-0;simp)
    simp only[Builtin.firstCells,mC,H,Sem.run_pure]
    congr 1
    apply Array.ext';simp
   ·unfold jT
    rw[List.map_map]
    generalize E.data.toList=l
    induction l with
    |nil=>simp[PList]
    |cons b l ih=>simp only[List.map_cons,PList];exact⟨_,_,rfl,by simp[PRel],ih⟩
   ·rw[List.all_eq_true];intro x hx;simp at hx;obtain⟨_,_,rfl⟩:=hx;rfl
  ·simp[Q.run]at i
 ·simp[Q.run]at i
theorem J9{t u ty e:TypeId}{C:TypeDesc}{i:TypeInfo}{z:Value}(H:P.underlying t=some (.slice e))(I:P.underlying u=some C)(D:C= .string∨ ∃F,C= .slice F)(hi:P.info? e=some i)(J:i.zero=some z)
  {base:Option Addr} {k6 nG n:Nat} {cx:Value} {Ad news:List Value} (K:(Builtin.lenOf cx).run P w= .ok n w) (Gx:(Builtin.firstCells i.size n cx).run P w.drew= .ok news.toArray w.drew) (r:(Builtin.firstCells i.size k6 (.slice base k6 nG)).run P w.drew= .ok Ad.toArray w.drew)
  (N:nG<k6+n) (O:(k6+n)*i.bytes≤1099511627776) (U:i.bytes≠0):
  (Builtin.append_ #[t,u] ty #[.slice base k6 nG,cx]).run P w= .ok (.slice (some ⟨w.heap.size,0,none⟩) (k6+n) (grownCap w (k6+n) nG e))
     (w.drew.alloc (.cells (Ad.toArray++news.toArray++Builtin.zeroCells z.cells (grownCap w (k6+n) nG e-(k6+n))) e)):=by
 have E: ¬(k6+n≤nG):=by omega
 have W:k6+n≤(k6+n)*i.bytes:=Nat.le_mul_of_pos_right _ (by omega)
 have V: ¬(9223372036854775807<((k6:Int)+(n:Int))):=by omega
 have O4: ¬(281474976710656<Builtin.nextslicecap (k6+n) nG*i.bytes):=by have:=Rj N O U;omega
 rcases D with rfl|⟨F,rfl⟩ <;>
 ·simp[Builtin.append_,run_underlying H,run_underlying I,sizeOf,typeInfo,zeroValue,hi,J,K,E,V,O4,Question.forced,Gx,r,newRow,grownCap]
  grind
theorem wE{t u ty e:TypeId}{C:TypeDesc}{i:TypeInfo}(E:P.underlying t=some (.slice e))(F:P.underlying u=some C)(D:C= .string∨ ∃H,C= .slice H)(hi:P.info? e=some i)
  {base:Option Addr} {k6 nG n:Nat} {cx:Value} {news:List Value} {w':World} (I:(Builtin.lenOf cx).run P w= .ok n w) (Gx:(Builtin.firstCells i.size n cx).run P w= .ok news.toArray w)
  (J:k6+n≤nG) (r:match base with|some K=>(storeCells (K.add (k6*i.size)) news).run P w= .ok () w'|none=>w'=w):
  (Builtin.append_ #[t,u] ty #[.slice base k6 nG,cx]).run P w= .ok (.slice base (k6+n) nG) w':=by
 rcases D with rfl|⟨H,rfl⟩ <;>
 ·cases base with
  |none=>
   dsimp only at r;subst r
   simp[Builtin.append_,run_underlying E,run_underlying F,sizeOf,typeInfo,hi,I,J,Gx]
  |some K=>
   dsimp only at r
   simp[Builtin.append_,run_underlying E,run_underlying F,sizeOf,typeInfo,hi,I,J,Gx,r]
theorem aaM{bx:Bool}(h:iP B st w β M)(el:TypeId)(c:Array Value)(cs:List T)(wm:Nat)(sp:Sp)(k g:Nat)(r:st.gens sp k<g)
  (C:PList w M cs (c.toList.take cs.length)) (hs:cs.all single=true) (i:cs.length≤c.size) (J4:wm≤cs.length):
  iP B (st.up (sp,k,⟨g,.cells cs wm bx⟩)) (w.alloc (.cells c el)) (nM β sp k g ⟨w.heap.size,0,c.size⟩) (fun b x=>M b x∨b=w.heap.size)∧
  Tr st w β M (st.up (sp,k,⟨g,.cells cs wm bx⟩)) (w.alloc (.cells c el)) (nM β sp k g ⟨w.heap.size,0,c.size⟩) (fun b x=>M b x∨b=w.heap.size):=by
 refine VN h sp k g r (.cells c el) c.size (.cells cs wm bx) ?_
 unfold kQ
 simp only[jv]
 refine⟨c,el,(0,0),by rw[heap_alloc,if_pos rfl],by omega,i,rfl, ?_,fun j _ _=>Or.inr (by trivial),hs,J4⟩
 simp only[List.drop_zero]
 exact pW.ofP (PList.mono (uP w M _) _ _ C)
variable(kY:qH β st.gens w M st.rho a.eval)(h:iP B st w β M)
include kY h
theorem ah4{d:Nat}{sh nm:Bool}{c:Call}{t u e:TypeId}{ud:TypeDesc}{i:TypeInfo}{z:Value}{s x:Operand}{s' x':iz}(ho:o.op= .call c)(hb:c.callee= .builtin .append)(tI:c.argTypes.toList= [t,u])(has:c.args.toList= [s,x])
  (ht:P.underlying t=some (.slice e)) (F:P.underlying u=some ud) (V:ud= .string∨ ∃e',ud= .slice e') (hi:P.info? e=some i) (hz:i.zero=some z) (pY:i.size=z.cells.size) (h0:i.size≠0) (hby:i.bytes≠0) (hs:lP s=some s') (hx:lP x=some x')
  (C:(jf d st.rho (.app i.size i.bytes s' x' sh nm)).run st.get st.sh.length=some (.val v ups)):lz P B st a w β M o v ups:=by
 have O:=kY s s' hs
 have vx:=kY x x' hx
 have mK:c.argTypes= #[t,u]:=by apply Array.ext';simp[tI]
 have J: ∀cv w',(Builtin.append_ #[t,u] o.type #[a.eval s,a.eval x]).run P w= .ok cv w'→(execOp a.eval o).run P w= .ok (.value cv) w':=by
  intro cv w' Z
  rw[k5 ho hb,aaC has,mK]
  simp[builtin,Z]
 simp only[jf,rA,Q.run_bind]at C
 cases nH:(jQ i.size (st.rho x')).run st.get st.sh.length with
 |none=>grind
 |some p=>
  obtain⟨n,xs⟩:=p
  simp only[nH,Option.bind_some]at C
  obtain⟨news,Ae,n1,n2,n3⟩:=Fy (P:=P) h vx nH
  have Gy:news.length=n*i.size:=by rw[←PList.length _ _ n1,n3]
  by_cases hn0:n=0
  ·rw[if_pos hn0]at C
   subst hn0
   have Gx:news= []:=by apply List.eq_nil_of_length_eq_zero;simpa using Gy
   subst Gx
   have same: ∀base k6 nG,a.eval s= .slice base k6 nG→k6≤nG→lz P B st a w β M o (st.rho s') []:=by
    intro base k6 nG U hle
    refine iL h (cv:= .slice base k6 nG) ?_ (by rw[←U];exact O)
    have:=wE (P:=P) (w:=w) (w':=w) (t:=t) (u:=u) (ty:=o.type) (base:=base) (k6:=k6) (nG:=nG) (cx:=a.eval x) (n:=0) (news:= []) ht F V hi (Ae w rfl).1 (Ae w rfl).2 (by omega) (by cases base <;> simp[storeCells])
    exact J _ _ (by rw[U];exact this)
   grind [Q.run,gW,PRel]
  ·rw[if_neg hn0]at C
   have hz0:z.cells.size≠0:=by omega
   have grow: ∀(bx:Bool) (base:Option Addr) (k6 nG:Nat) (Ad:List Value) (os:List T) (sp:Sp) (k g wm:Nat),a.eval s= .slice base k6 nG→nG<k6+n→(k6+n)*i.bytes≤1099511627776→PList w M os Ad→os.all single=true→os.length=k6*i.size→
     (Builtin.firstCells i.size k6 (.slice base k6 nG)).run P w.drew= .ok Ad.toArray w.drew→st.gens sp k<g→wm≤os.length→lz P B st a w β M o (.isl sp k g 0 (k6+n) i.size) [(sp,k,⟨g,.cells (os++xs) wm bx⟩)]:=by
    intro bx base k6 nG Ad os sp k g wm U lB H ho1 ho2 ho3 hfc X J4
    have Z:=J9 (P:=P) (w:=w) (t:=t) (u:=u) (ty:=o.type) (base:=base) (k6:=k6) (nG:=nG) (cx:=a.eval x) (n:=n) (Ad:=Ad) (news:=news) ht F V hi hz (Ae w rfl).1 (Ae w.drew rfl).2 hfc lB H hby
    obtain⟨hd1,hd2⟩:=HM h (w.drawn+1)
    have hol:Ad.length=k6*i.size:=by rw[←PList.length _ _ ho1,ho3]
    have Bh:=grownCap_ge w (k6+n) nG e
    have OZ:(Ad.toArray++news.toArray++Builtin.zeroCells z.cells (grownCap w (k6+n) nG e-(k6+n))).size=grownCap w (k6+n) nG e*i.size:=by
     rw[Array.size_append,Array.size_append,size_zeroCells]
     simp only[List.size_toArray,hol,Gy,←pY]
     rw[←Nat.add_mul,←Nat.add_mul];congr 1;omega
    have D:(os++xs).length=Ad.length+news.length:=by simp[ho3,n3,hol,Gy]
    obtain⟨r1,r2⟩:=aaM (bx:=bx) hd1 e (Ad.toArray++news.toArray++Builtin.zeroCells z.cells (grownCap w (k6+n) nG e-(k6+n))) (os++xs) wm sp k g X (by
     have:(Ad.toArray++news.toArray++Builtin.zeroCells z.cells (grownCap w (k6+n) nG e-(k6+n))).toList.take (os++xs).length=Ad++news:=by
      rw[D]
      simp only[Array.toList_append,List.toList_toArray]
      rw[List.take_append_of_le_length (by simp)]
      exact List.take_of_length_le (by simp)
     rw[this]
     exact PList.mono hd2.keep _ _ (PList.append ho1 n1)) (by simp only[List.all_append,Bool.and_eq_true];exact⟨ho2,n2⟩) (by
     rw[OZ,D,hol,Gy,←Nat.add_mul];exact Nat.mul_le_mul_right _ Bh) (by simp;omega)
    refine⟨_,_,_,_,_,J _ _ (by rw[U];exact Z),.inl rfl,r1,hd2.trans r2 (Nat.le_refl _), ?_, ?_⟩
    ·show w.heap.size≤(w.heap.push _).size;simp
    ·simp only[gW]
     refine⟨by simp[St.ups,lu],grownCap w (k6+n) nG e, ?_,Bh, ?_⟩
     ·rw[jv]
     ·rw[jv,OZ];exact Nat.le_of_eq (Nat.zero_add _)
   split at C
   ·rename_i U
    rw[U]at O;simp only[gW]at O
    split at C
    ·rename_i H
     unfold roomy at H
     obtain⟨sp,k,g,rfl,rfl,X,_⟩:=ph C
     have:=grow (nm&& !sh) none 0 0 [] [] sp k g 0 O (by omega) (by simpa using H) (by simp[PList]) rfl (by simp) (by simp[Builtin.firstCells]) X (Nat.zero_le _)
     simpa using this
    ·simp[Q.run]at C
   ·rename_i cs len U
    rw[U]at O;simp only[gW,PRel]at O
    obtain⟨blk,off,E,kE,e1,e2,e3,e5,e4⟩:=O
    have:=e3 trivial;subst this
    split at C
    ·rename_i H
     simp at H
     unfold roomy at H
     obtain⟨sp,k,g,rfl,rfl,X,_⟩:=ph C
     obtain⟨ol,f1,f2,f3,f4⟩:=iH.load (P:=P) e4
     refine grow false _ _ _ ol cs sp k g 0 e1 (by omega) H.2 f3 f4 H.1 ?_ X (Nat.zero_le _)
     have:=run_loadCells_list (P:=P) w.drew ⟨blk,off,kE⟩ ol (fun j u F=>by
      rcases e5 with e5|e5
      ·subst e5
       rw[ll];have:=f2 j u F;unfold World.cell? at this ⊢; exact this
      ·exfalso
       have h0:ol= []:=List.length_eq_zero_iff.1 (by rw[f1,H.1,e5,Nat.zero_mul])
       subst h0;simp at F)
     rw[f1,H.1]at this
     simp[Builtin.firstCells,this]
    ·simp[Q.run]at C
   ·rename_i sp k g off len sz U
    rw[U]at O;simp only[gW]at O
    obtain⟨q1,E,e1,e2,e3⟩:=O
    split at C
    ·rename_i H
     simp at H
     unfold roomy at H
     obtain⟨⟨rfl,rfl⟩,H⟩:=H
     simp only[Q.run]at C
     split at C
     ·rename_i X
      have Cx:=h.obj sp k
      generalize he:st.get sp k=en at*
      obtain⟨r,ob⟩:=en
      dsimp only at X;subst X
      cases ob with
      |none=>simp[Q.run]at C
      |map _ _ _=>simp[Q.run]at C
      |cells cs wm bx=>
       cases bx with
       |true=>simp[Q.run]at C
       |false=>
        dsimp only at C
        split at C
        ·rename_i D
         simp[Q.run]at C;obtain⟨rfl,rfl⟩:=C
         unfold kQ at Cx
         obtain⟨I,el,fz,K,h2,h3,h4,Y,h6,h7,h8⟩:=Cx
         dsimp only at K h2 h3 h4 Y h6
         subst h4
         have Gz:st.gens sp k=r:=by show(st.get sp k).g=r;rw[he]
         by_cases MD:len+n≤E
         ·have V1:(len+n)*i.size≤E*i.size:=Nat.mul_le_mul_right _ MD
          rw[Nat.add_mul]at V1
          have VY:=gY.one (PList.toV β st.gens _ _ n1) n2
          have W:=run_storeCells_at P (β sp k r).blk ((β sp k r).off+len*i.size) el news 0 I w K (by omega) VY
          rw[qu K]at W
          simp only[Nat.add_zero]at W
          rw[DL _ _ _ (by simp;omega)]at W
          have Z:=wE (P:=P) (w:=w) (t:=t) (u:=u) (ty:=o.type) (base:=some ⟨(β sp k r).blk,(β sp k r).off+0,none⟩) (k6:=len) (nG:=E) (cx:=a.eval x) (n:=n) (news:=news) ht F V hi (Ae w rfl).1 (Ae w rfl).2 MD (by
           dsimp only;rw[ll];simpa using W)
          have N:=z7 h he (r+1) (Nat.le_succ _) K (len*i.size) news (cs++xs) (by omega) (by omega) (by simp;omega) (by simp[n3];omega) (by simp only[List.all_append,Bool.and_eq_true];exact⟨h7,n2⟩) (by
           show PList w M _ _
           have Y:PList w M cs _:=Y
           have:(splice (I.toList.drop (β sp k r).off) (len*i.size) news).take (cs++xs).length=(I.toList.drop (β sp k r).off).take cs.length++news:=by
            rw[←DL _ _ _ (by simp;omega),D,List.take_append_of_le_length (by simp[n3,Gy];omega)]
            exact List.take_of_length_le (by simp[n3,Gy];omega)
           rw[this]
           exact PList.append Y n1)
          refine⟨_,_,_,_,_,J _ _ (by rw[e1];exact Z),.inl rfl,N.1,N.2,by rw[kB];exact Nat.le_refl _, ?_⟩
          simp only[gW]
          refine⟨by simp[St.ups,lu],E,by rw[jv],MD,by rw[jv];exact e3⟩
         ·have OR:PList w M cs ((I.toList.drop (β sp k r).off).take cs.length):=Y
          refine grow false _ len E ((I.toList.drop (β sp k r).off).take cs.length) cs sp k (r+1) wm e1 (by omega) H OR h7 D.symm ?_ (by rw[Gz];omega) h8
          have wD:=PList.length _ _ OR
          have:=run_loadCells_list (P:=P) w.drew ⟨(β sp k r).blk,(β sp k r).off+0,none⟩ ((I.toList.drop (β sp k r).off).take cs.length) (fun j u F=>by
           rw[ll]
           rw[List.getElem?_take]at F
           split at F
           ·rw[List.getElem?_drop]at F
            unfold World.cell?
            show(match w.heap[(β sp k r).blk]? with|some (.cells c _ _)=>if(none:Option Nat).isSome then none else c[(β sp k r).off+0+j]? |_=>none)=some u
            rw[K];simpa using F
           ·cases F)
          rw[←wD]at this
          simp only[Builtin.firstCells]
          rw[D]
          exact this
        ·split at C
         ·rename_i ZW
          simp only[Bool.and_eq_true,decide_eq_true_eq]at ZW
          obtain⟨⟨⟨rfl,rfl⟩,D⟩,Bl⟩:=ZW
          simp[Q.run]at C;obtain⟨rfl,rfl⟩:=C
          unfold kQ at Cx
          obtain⟨I,el,fz,K,h2,h3,h4,Y,h6,h7,h8⟩:=Cx
          dsimp only at K h2 h3 h4 Y h6
          subst h4
          have Gz:st.gens sp k=r:=by show(st.get sp k).g=r;rw[he]
          have OR:PList w M cs ((I.toList.drop (β sp k r).off).take cs.length):=Y
          have h5t:PList w M (cs.take (len*i.size)) ((I.toList.drop (β sp k r).off).take (len*i.size)):=by
           have:=PList.take (len*i.size) OR
           rwa [List.take_take,Nat.min_eq_left (by omega)]at this
          have ZX:(cs.take (len*i.size)).length=len*i.size:=by rw[List.length_take];omega
          have tI:(cs.take (len*i.size)).all single=true:=List.all_eq_true.2 fun x hx=>List.all_eq_true.1 h7 x (List.mem_of_mem_take hx)
          by_cases MD:len+n≤E
          ·have V1:(len+n)*i.size≤E*i.size:=Nat.mul_le_mul_right _ MD
           rw[Nat.add_mul]at V1
           have VY:=gY.one (PList.toV β st.gens _ _ n1) n2
           have W:=run_storeCells_at P (β sp k r).blk ((β sp k r).off+len*i.size) el news 0 I w K (by omega) VY
           rw[qu K]at W
           simp only[Nat.add_zero]at W
           rw[DL _ _ _ (by simp;omega)]at W
           have Z:=wE (P:=P) (w:=w) (t:=t) (u:=u) (ty:=o.type) (base:=some ⟨(β sp k r).blk,(β sp k r).off+0,none⟩) (k6:=len) (nG:=E) (cx:=a.eval x) (n:=n) (news:=news) ht F V hi (Ae w rfl).1 (Ae w rfl).2 MD (by
            dsimp only;rw[ll];simpa using W)
           have N:=z7 h he (r+1) (Nat.le_succ _) K (len*i.size) news (cs.take (len*i.size)++xs) Bl (by omega) (by rw[List.length_append,ZX];omega) (by rw[List.length_append,ZX,n3];omega) (by simp only[List.all_append,Bool.and_eq_true];exact⟨tI,n2⟩) (by
            show PList w M _ _
            have:(splice (I.toList.drop (β sp k r).off) (len*i.size) news).take (cs.take (len*i.size)++xs).length=(I.toList.drop (β sp k r).off).take (len*i.size)++news:=by
             have hl9:len*i.size+news.length≤(I.toList.drop (β sp k r).off).length:=by simp;omega
             rw[←DL _ _ _ (by simp;omega),List.length_append,ZX,n3,←Gy]
             rw[List.take_append_of_le_length (by simp;omega)]
             exact List.take_of_length_le (by simp;omega)
            rw[this]
            exact PList.append h5t n1)
           refine⟨_,_,_,_,_,J _ _ (by rw[e1];exact Z),.inl rfl,N.1,N.2,by rw[kB];exact Nat.le_refl _, ?_⟩
           simp only[gW]
           refine⟨by simp[St.ups,lu],E,by rw[jv],MD,by rw[jv];exact e3⟩
          ·refine grow false _ len E ((I.toList.drop (β sp k r).off).take (len*i.size)) (cs.take (len*i.size)) sp k (r+1) wm e1 (by omega) H h5t tI ZX ?_ (by rw[Gz];omega) (by rw[ZX];exact Bl)
           have wD:=PList.length _ _ h5t
           rw[ZX]at wD
           have:=run_loadCells_list (P:=P) w.drew ⟨(β sp k r).blk,(β sp k r).off+0,none⟩ ((I.toList.drop (β sp k r).off).take (len*i.size)) (fun j u F=>by
            rw[ll]
            rw[List.getElem?_take]at F
            split at F
            ·rw[List.getElem?_drop]at F
             unfold World.cell?
             show(match w.heap[(β sp k r).blk]? with|some (.cells c _ _)=>if(none:Option Nat).isSome then none else c[(β sp k r).off+0+j]? |_=>none)=some u
             rw[K];simpa using F
            ·cases F)
           rw[←wD]at this
           simp only[Builtin.firstCells]
           exact this
         ·simp[Q.run]at C
     ·simp[Q.run]at C
    ·simp[Q.run]at C
   ·simp[Q.run]at C
end
end Go.Ev
namespace Go.Ev
open Go
section
variable{P:Program}{B:lS}{st:St}{a:Act}{w:World}{β:iJ}{M:im}{o:Oper}{v:T}{ups:List Up}
theorem rH{x:Option T}{h:Sp→Nat→gR}{i:Nat}(r:(Ev.val x).run h i=some (.val v ups)):x=some v∧ups= []:=by
 cases x with
 |none=>simp[Ev.val,Q.run]at r
 |some y=>grind [Ev.val,Q.run]
theorem aaN(kY:qH β st.gens w M st.rho a.eval)(h:iP B st w β M){c:Call}(r:o.op= .call c){sh:Nat}{L4:mO}{d:Nat}(i:tF P sh c=some L4)
  (C:(jf d st.rho L4).run st.get st.sh.length=some (.val v ups)):lz P B st a w β M o v ups:=by
 unfold tF at i
 split at i
 ·grind [Option.map_eq_some_iff,jf,Q.run]
 ·grind [jf,Q.run]
 ·grind [jf,Q.run,aaD,aaE,aaF,aaG]
 ·rename_i D
  split at i
  ·rename_i t u x y E F
   split at i
   ·grind [ah4]
   ·cases i
  ·cases i
 ·grind [Option.map_eq_some_iff,af4]
 ·grind [Option.map_eq_some_iff,af4]
 ·cases i
theorem aql(kY:qH β st.gens w M st.rho a.eval)(h:iP B st w β M){sh:Nat}{L4:mO}{d:Nat}(i:jK P sh o.op=some L4)
  (C:(jf d st.rho L4).run st.get st.sh.length=some (.val v ups)):lz P B st a w β M o v ups:=by
 cases Fi:o.op with
 |move x=>
  grind [jK,Option.map_eq_some_iff,jf,Q.run,af2]
 |assign x=>
  rw[Fi]at i;simp only[jK,Option.map_eq_some_iff]at i
  obtain⟨y,D,rfl⟩:=i
  simp[jf,Q.run]at C;obtain⟨rfl,rfl⟩:=C
  simp_all[af2]
 |pick c x y=>
  grind [jK,jf,Q.run,aax]
 |alloc t=>
  grind [jK,VU]
 |box t x=>
  grind [jK,Option.map_eq_some_iff,ahZ]
 |build t ps=>
  grind [jK,Option.map_eq_some_iff,VR]
 |buildSlice t len ps=>
  grind [jK,ah2]
 |load t x=>
  grind [jK,ap6]
 |store t x y=>
  grind [jK,aqg]
 |nilCheck x=>
  grind [jK,Option.map_eq_some_iff,ahM]
 |binOp op t x y t'=>
  rw[Fi]at i;simp only[jK]at i
  split at i
  ·rename_i x' y' D F
   split at i
   ·rename_i I
    simp at i;subst i
    obtain⟨e1,rfl⟩:=rH C
    simp only[Option.map_eq_some_iff]at e1
    obtain⟨r,H,rfl⟩:=e1
    exact OV (neg:=false) kY h Fi D F (by have:=wB I;simp[DA,this]) (by simp) H
   ·rename_i I
    simp at i;subst i
    obtain⟨e1,rfl⟩:=rH C
    simp only[Option.map_eq_some_iff]at e1
    obtain⟨r,H,rfl⟩:=e1
    exact OV (neg:=true) kY h Fi D F (by have:=wB I;simp[DA,this]) (by simp) H
   ·simp at i;subst i
    obtain⟨e1,rfl⟩:=rH C
    grind [ahN]
   ·rename_i I
    simp only[Option.map_eq_some_iff]at i
    obtain⟨k,E,rfl⟩:=i
    obtain⟨e1,rfl⟩:=rH C
    simp only[Option.map_eq_some_iff]at e1
    obtain⟨r,H,rfl⟩:=e1
    refine OV (neg:=false) kY h Fi D F E ?_ H
    have OZ:=pX E
    grind
   ·rename_i I
    simp only[Option.map_eq_some_iff]at i
    obtain⟨k,E,rfl⟩:=i
    obtain⟨e1,rfl⟩:=rH C
    simp only[Option.map_eq_some_iff]at e1
    obtain⟨r,H,rfl⟩:=e1
    refine OV (neg:=true) kY h Fi D F E ?_ H
    have OZ:=pX E
    grind
   ·cases i
  ·cases i
 |unOp op t x=>
  rw[Fi]at i;simp only[jK,Option.map_eq_some_iff]at i
  obtain⟨y,D,rfl⟩:=i
  obtain⟨e1,rfl⟩:=rH C
  grind [ap5]
 |convert s t x=>
  grind [jK,jf,Q.run,ahP]
 |makeFunc U first V=>
  rw[Fi]at i
  cases U <;> simp only[jK]at i <;> try (cases i;done)
  grind [jf,Q.run,aaA]
 |makeMap t r=>
  rw[Fi]at i
  cases r <;> simp only[jK]at i
  ·grind [VV]
  ·cases i
 |makeSlice t l c=>
  grind [jK,aaH]
 |slice t x l W m=>
  rw[Fi]at i;simp only[jK]at i
  split at i
  ·rename_i y X Y D F E N J
   simp at i;subst i
   have O:m=none:=by cases m <;> simp[vU]at J ⊢
   grind [ahW]
  ·rename_i e y X Y m' D F E N J
   split at i
   ·rename_i n Z
    split at i
    ·rename_i K
     simp at K i;subst i
     refine ahX kY h Fi F E N J D Z K.1 ?_ C
     intro O
     rcases K.2 with e1|e1
     ·cases m with
      |none=>simp at O
      |some mm=>grind [vU,Option.map_eq_some_iff]
     ·cases W with
      |none=>grind [vU]
      |some _=>rfl
    ·cases i
   ·cases i
  ·cases i
 |fieldAddr s x f=>
  grind [jK,ap7]
 |field s x f=>
  grind [jK,ahS]
 |indexAddr t x j=>
  grind [jK,ap8,ahV]
 |index t x j=>
  grind [jK,ahU,ahT]
 |lookup t m k ok=>
  grind [jK,aqi]
 |mapUpdate t m k x=>
  grind [jK,Option.map_eq_some_iff,aqj]
 |extract x j=>
  rw[Fi]at i;simp only[jK,Option.map_eq_some_iff]at i
  obtain⟨y,D,rfl⟩:=i
  simp only[jf]at C
  split at C
  ·rename_i vs e
   obtain⟨e1,rfl⟩:=rH C
   grind [ahQ]
  ·simp[Q.run]at C
 |call c=>grind [jK,aaN]
 |_=>grind [jK]
end
end Go.Ev
