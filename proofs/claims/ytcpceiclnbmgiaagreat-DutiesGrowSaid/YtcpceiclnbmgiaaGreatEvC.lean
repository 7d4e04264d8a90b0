/- A tree evaluator over the model, proved against it (part C): where it answers, the call returns that answer. Conditions: none beyond its theorems' own. -/
import Derived.Test.YtcpceiclnbmgiaaGreatEvB
import Derived.Laws.Tables
set_option linter.unusedSimpArgs false
set_option linter.unusedVariables false
namespace Go.Ev
open Go
theorem xS{P:Program}{t:TypeId}{z:T}(h:rV P t=some z): ∃i r,P.info? t=some i∧i.zero=some r∧CU r=some z:=by
 unfold rV at h
 cases hi:P.info? t with
 |none=>simp[hi]at h
 |some i=>
  simp only[hi,Option.bind_some]at h
  cases D:i.zero with
  |none=>simp[D]at h
  |some r=>grind
theorem FC{P:Program}{t:TypeId}{z:T}(h:rV P t=some z)(w:World): ∃r,(zeroValue t).run P w= .ok r w∧ ∀w M,PRel w M z r:=by
 obtain⟨i,r,D,F,H⟩:=xS h
 exact⟨r,by simp[zeroValue,typeInfo,D,F],fun w M=>ql H⟩
theorem sW{β:iA}{G:Sp→Nat→Nat}{w:World}{M:ic}{t:T}{cv:Value}(h:fy β G w M t cv)(i:noTup t=true):gO β G w M (cellsOf t) cv.cells.toList∧(cellsOf t).all single=true:=by
 cases t
 case agg cs=>
  simp only[fy]at h
  obtain⟨a,rfl,r,D⟩:=h
  exact⟨r,D⟩
 case tup cs=>simp[noTup]at i
 case any=>simp[noTup]at i
 all_goals
  have F:=h
  simp only[fy,PRel]at h
  refine⟨?_,rfl⟩
  simp only[cellsOf,gO]
  refine⟨cv,[], ?_,F,rfl⟩
  first
   |(subst h;rfl)
   |(obtain⟨_,rfl,_⟩:=h;rfl)
   |(obtain⟨_,_,rfl,_⟩:=h;rfl)
   |(obtain⟨_,_,_,rfl,_⟩:=h;rfl)
   |(obtain⟨_,_,_,_,rfl,_⟩:=h;rfl)
   |(obtain⟨_,rfl⟩:=h;rfl)
theorem xT{w:World}{M:ic}{t:T}{cv:Value}(h:PRel w M t cv)(i:noTup t=true):PList w M (cellsOf t) cv.cells.toList∧(cellsOf t).all single=true:=by
 cases t
 case agg cs=>
  simp only[PRel]at h
  obtain⟨a,rfl,r,D⟩:=h
  exact⟨r,D⟩
 case tup cs=>simp[noTup]at i
 case any=>simp[noTup]at i
 case isl=>simp only[PRel]at h
 case ptr=>simp only[PRel]at h
 case mp=>simp only[PRel]at h
 all_goals
  have F:=h
  simp only[PRel]at h
  refine⟨?_,rfl⟩
  simp only[cellsOf,PList]
  refine⟨cv,[], ?_,F,rfl⟩
  first
   |(subst h;rfl)
   |(obtain⟨_,rfl,_⟩:=h;rfl)
   |(obtain⟨_,_,rfl,_⟩:=h;rfl)
   |(obtain⟨_,_,_,rfl,_⟩:=h;rfl)
   |(obtain⟨_,_,_,_,rfl,_⟩:=h;rfl)
theorem jW{α:Type}: ∀(cs:List α) (off:Nat) (i:List α),(splice cs off i).length=cs.length
 |cs,0,[]=>by grind [splice]
 | [],0,v::i=>by simp[splice]
 |c::cs,0,v::i=>by simp[splice,jW cs 0 i]
 | [],off+1,i=>by simp[splice]
 |c::cs,off+1,i=>by simp[splice,jW cs off i]
theorem qo{α:Type}: ∀(cs:List α) (off:Nat),splice cs off []=cs
 |cs,0=>by grind [splice]
 | [],off+1=>by simp[splice]
 |c::cs,off+1=>by simp[splice,qo cs off]
theorem AX{α:Type}: ∀(cs:List α) (off:Nat) (v:α) (i:List α),splice (cs.set off v) (off+1) i=splice cs off (v::i)
 | [],off,v,i=>by grind [splice]
 |c::cs,0,v,i=>by simp[splice]
 |c::cs,off+1,v,i=>by simp[splice,AX cs off v i]
theorem lF{α:Type}: ∀(cs:List α) (off:Nat) (i:List α) (j:Nat),(splice cs off i)[j]? =if off≤j∧j<off+i.length∧j<cs.length then i[j-off]? else cs[j]?
 |cs,0,[],j=>by rw[qo];simp
 | [],0,v::i,j=>by simp[splice]
 |c::cs,0,v::i,0=>by simp[splice]
 |c::cs,0,v::i,j+1=>by simp[splice,lF cs 0 i j]
 | [],off+1,i,j=>by simp[splice]
 |c::cs,off+1,i,0=>by simp[splice]
 |c::cs,off+1,i,j+1=>by
  simp only[splice,List.getElem?_cons_succ,lF cs off i j,List.length_cons]
  grind
theorem gO.splice{β:iA}{G:Sp→Nat→Nat}{w:World}{M:ic}: ∀{cs:List T} {r:List Value} {off:Nat} {F:List T} {LM:List Value},gO β G w M cs r→gO β G w M F LM→gO β G w M (splice cs off F) (splice r off LM)
 |cs,r,0,[],LM,i,D=>by grind [gO,qo]
 | [],r,0,v::F,LM,i,D=>by grind [gO,Ev.splice]
 |c::cs,r,0,v::F,LM,i,D=>by
  simp only[gO]at i D
  obtain⟨a,as,rfl,I,H⟩:=i
  obtain⟨u,us,rfl,J,K⟩:=D
  simp only[Ev.splice,gO]
  exact⟨u,_,rfl,J,gO.splice H K⟩
 | [],r,off+1,F,LM,i,D=>by simp_all[gO,Ev.splice]
 |c::cs,r,off+1,F,LM,i,D=>by
  simp only[gO]at i
  obtain⟨a,as,rfl,I,H⟩:=i
  simp only[Ev.splice,gO]
  exact⟨a,_,rfl,I,gO.splice H D⟩
theorem PList.splice{w:World}{M:ic}: ∀{cs:List T} {r:List Value} {off:Nat} {F:List T} {LM:List Value},PList w M cs r→PList w M F LM→PList w M (splice cs off F) (splice r off LM)
 |cs,r,0,[],LM,i,D=>by grind [PList,qo]
 | [],r,0,v::F,LM,i,D=>by grind [PList,Ev.splice]
 |c::cs,r,0,v::F,LM,i,D=>by
  simp only[PList]at i D
  obtain⟨a,as,rfl,I,H⟩:=i
  obtain⟨u,us,rfl,J,K⟩:=D
  simp only[Ev.splice,PList]
  exact⟨u,_,rfl,J,PList.splice H K⟩
 | [],r,off+1,F,LM,i,D=>by simp_all[PList,Ev.splice]
 |c::cs,r,off+1,F,LM,i,D=>by
  simp only[PList]at i
  obtain⟨a,as,rfl,I,H⟩:=i
  simp only[Ev.splice,PList]
  exact⟨a,_,rfl,I,PList.splice H D⟩
theorem sX{p:T→Bool}{cs i:List T}{off:Nat}(r:cs.all p=true)(D:i.all p=true):(splice cs off i).all p=true:=by
 grind [List.all_eq_true,lF,List.getElem?_of_mem]
theorem zU(off:Nat): ∀(r:List Value) (s:Nat) (i:Array Value),((r.zipIdx s).foldl (fun(cs:Array Value) (p:Value×Nat)=>cs.setIfInBounds (off+p.2) p.1) i).toList=splice i.toList (off+s) r
 | [],s,i=>by simp[qo]
 |v::r,s,i=>by
  simp only[List.zipIdx_cons,List.foldl_cons]
  rw[zU off r (s+1),Array.toList_setIfInBounds,←Nat.add_assoc,AX]
theorem NR{β:iA}{G:Sp→Nat→Nat}{w:World}{M:ic}{place:Nat→Option (Nat×Nat)}: ∀(parts:List (Nat×Value)) (ps:List (Nat×List T)) (F:List T) (D:Array Value) (rs:List T),
  gO β G w M F D.toList→F.all single=true→parts.length=ps.length→(∀(j i:Nat) (cv:Value) (off:Nat) (ts:List T),parts[j]? =some (i,cv)→ps[j]? =some (off,ts)→place i=some (off,ts.length)∧gO β G w M ts cv.cells.toList∧ts.all single=true)→
  pO F ps=some rs→ ∃rc,Instr.fill place D parts=some rc∧gO β G w M rs rc.toList∧rs.all single=true
 | [],ps,F,D,rs,I,hs,r,J,H=>by
   grind [pO,Instr.fill]
 |(i,cv)::parts,ps,F,D,rs,I,hs,r,J,H=>by
  cases ps with
  |nil=>simp at r
  |cons p ps=>
   obtain⟨off,ts⟩:=p
   simp only[pO]at H
   split at H
   ·rename_i N
    obtain⟨V,K,O⟩:=J 0 i cv off ts rfl rfl
    have C1:=gO.length _ _ K
    have Ll:=gO.length _ _ I
    have W:cv.cells.size=ts.length:=by rw[C1];simp
    have U:D.size=F.length:=by rw[Ll];simp
    have hc: ¬((cv.cells.size≠ts.length||off+cv.cells.size>D.size)=true):=by
     grind
    have e:(cv.cells.zipIdx.foldl (fun(cs:Array Value) (p:Value×Nat)=>cs.setIfInBounds (off+p.2) p.1) D).toList=splice D.toList off cv.cells.toList:=by
     have:=zU off cv.cells.toList 0 D
     grind [Array.toList_zipIdx]
    obtain⟨rc,X,Y,Z⟩:=NR parts ps (splice F off ts) (cv.cells.zipIdx.foldl (fun(cs:Array Value) (p:Value×Nat)=>cs.setIfInBounds (off+p.2) p.1) D) rs
     (by rw[e];exact gO.splice I K) (sX hs O) (by simpa using r) (fun j i cv off ts a b=>J (j+1) i cv off ts (by simpa using a) (by simpa using b)) H
    grind [Instr.fill]
   ·cases H
section
variable{P:Program}{B:lK}{st:St}{a:Act}{w:World}{β:iA}{M:ic}{o:Oper}{v:T}{ups:List Up}
theorem xU{D:List (Nat×Nat)}: ∀{ps:List (Nat×Operand)} {r:List (Nat×Nat×im)},placesOf D ps=some r→ps.length=r.length∧ ∀(j i:Nat) (x:Operand) (off n:Nat) (y:im),ps[j]? =some (i,x)→r[j]? =some (off,n,y)→D[i]? =some (off,n)∧lE x=some y
 | [],r,h=>by grind [placesOf]
 |(H,x0)::ps,r,h=>by
  simp only[placesOf]at h
  split at h
  ·rename_i p y I J K F
   simp at h;subst h
   obtain⟨a1,a2⟩:=xU F
   grind
  ·cases h
theorem vU{sz:Nat}: ∀{ps:List (Nat×Operand)} {r:List (Nat×Nat×im)},qb sz ps=some r→ps.length=r.length∧ ∀(j i:Nat) (x:Operand) (off n:Nat) (y:im),ps[j]? =some (i,x)→r[j]? =some (off,n,y)→(off=i*sz∧n=sz)∧lE x=some y
 | [],r,h=>by grind [qb]
 |(F,x0)::ps,r,h=>by
  simp only[qb]at h
  split at h
  ·rename_i y H I D
   simp at h;subst h
   obtain⟨a1,a2⟩:=vU D
   grind
  ·cases h
variable(kD:pd β st.gens w M st.rho a.eval)(h:iH B st w β M)
include kD h
theorem Uk{d nx:Nat}{t:TypeId}{ps:Array (Nat×Operand)}{z:T}{r:List (Nat×Nat×im)}(ho:o.op= .build t ps)(hz:rV P t=some z)
  (N:(∃O F,P.underlying t=some (.struct O)∧O.toList.mapM (fun f=>(P.info? f.type).map fun i=>(f.offset,i.size))=some F∧placesOf F ps.toList=some r)∨(∃n e sz,P.underlying t=some (.array n e)∧lA P e=some sz∧qb sz ps.toList=some r))
  (GL:noTup z=true) (H:(iX d st.rho (.build (cellsOf z) r)).run st.get nx=some (.val v ups)):kP P B st a w β M o v ups:=by
 obtain⟨i,U,z1,z2,z3⟩:=xS hz
 have V:fy β st.gens w M z U:=PRel.toV _ _ _ _ (ql z3)
 obtain⟨W,X⟩:=sW V GL
 simp only[iX]at H
 split at H
 ·rename_i jN
  cases Y:pO (cellsOf z) (r.map fun p=>(p.1,cellsOf (st.rho p.2.2)))with
  |none=>simp[Y,Ev.val,Q.run]at H
  |some rs=>
   simp[Y,Ev.val,Q.run]at H;obtain⟨rfl,rfl⟩:=H
   have parts: ∃place:Nat→Option (Nat×Nat),(∀rc,Instr.fill place U.cells (ps.toList.map fun p=>(p.1,a.eval p.2))=some rc→P.built t (ps.map fun(i,x)=>(i,a.eval x)).toList=some rc)∧ps.toList.length=r.length∧
     ∀(j i:Nat) (x:Operand) (off n:Nat) (y:im),ps.toList[j]? =some (i,x)→r[j]? =some (off,n,y)→place i=some (off,n)∧lE x=some y:=by
    rcases N with⟨O,F,u1,u2,u3⟩|⟨n,e,sz,u1,u2,u3⟩
    ·obtain⟨Z,g2⟩:=xU u3
     refine⟨fun i=>F[i]?,fun rc D=> ?_,Z,g2⟩
     simp only[Program.built,z1,z2,u1,u2,Array.toList_map]
     have:(fun x:Nat=>F.toArray[x]?)=fun i=>F[i]? :=by funext i;simp
     rw[this];exact D
    ·obtain⟨Z,g2⟩:=vU u3
     have: ∃I,P.info? e=some I∧I.size=sz:=by
      simp_all[lA]
     obtain⟨I,v1,v2⟩:=this
     refine⟨fun i=>some (i*I.size,I.size),fun rc D=> ?_,Z,fun j i x off n y J K=> ?_⟩
     ·simp only[Program.built,z1,z2,u1,v1,Array.toList_map];exact D
     ·obtain⟨⟨rfl,rfl⟩,c⟩:=g2 j i x off n y J K
      exact⟨by rw[v2],c⟩
   obtain⟨place,q1,q2,q3⟩:=parts
   obtain⟨rc,r1,r2,r3⟩:=NR (place:=place) (ps.toList.map fun p=>(p.1,a.eval p.2)) _ (cellsOf z) U.cells rs W X (by simp[q2]) (by
    intro j i cv off ts J K
    rw[List.getElem?_map,Option.map_eq_some_iff]at J K
    obtain⟨⟨i',x⟩,c1,c2⟩:=J
    obtain⟨⟨aw7,n,y⟩,c3,c4⟩:=K
    simp at c2 c4
    obtain⟨rfl,rfl⟩:=c2
    obtain⟨rfl,rfl⟩:=c4
    obtain⟨e1,e2⟩:=q3 j i' x aw7 n y c1 c3
    have hv:=kD x y e2
    have Ul:=(List.all_eq_true.1 jN) _ (List.mem_of_getElem? c3)
    simp at Ul
    obtain⟨k1,k2⟩:=sW hv Ul.2
    exact⟨by rw[e1,Ul.1],k1,k2⟩) Y
   refine iB h (cv:= .agg rc) ?_ (by simp only[fy];exact⟨rc,rfl,r2,r3⟩)
   have:=run_build (P:=P) w t (ps.map fun(i,x)=>(i,a.eval x)) rc (q1 rc r1)
   simp[execOp,ho,this]
 ·simp[Q.run]at H
end
end Go.Ev
namespace Go.Ev
open Go
theorem oD{st:St}{d:Nat}{sh:Bool}{ob:Ob}{f:Sp→Nat→Nat→T}{v:T}{ups:List Up}(h:(nH d sh ob f).run st.get st.sh.length=some (.val v ups)):
  ∃sp k g,v=f sp k g∧ups= [(sp,k,⟨g,ob⟩)]∧st.gens sp k<g∧(sp= .S→sh=true):=by
 grind [nH,Q.run,St.get,FA,lG]
theorem xV{α:Type}(z:List α): ∀n,(repl z n).length=n*z.length
 |0=>by simp[repl]
 |n+1=>by simp[repl,xV z n,Nat.add_mul];omega
theorem Jp{α:Type}(z:List α)(i:z≠ []): ∀(n j:Nat),j<n*z.length→(repl z n)[j]? =z[j%z.length]?
 |0,j,h=>by simp at h
 |n+1,j,h=>by
  have D:0<z.length:=List.length_pos_iff.2 i
  simp only[repl]
  by_cases r:j<z.length
  ·rw[List.getElem?_append_left r,Nat.mod_eq_of_lt r]
  ·rw[List.getElem?_append_right (by omega),Jp z i n (j-z.length) (by rw[Nat.add_mul]at h;omega)]
   grind [Nat.mod_eq_sub_mod]
theorem C5(z:Array Value)(n:Nat)(r:z.size≠0):((Array.range (n*z.size)).map (fun i=>z[i%z.size]!)).toList=repl z.toList n:=by
 apply List.ext_getElem?
 grind [Jp,List.getElem?_eq_none,xV,Nat.mod_lt]
theorem PList.repl{w:World}{M:ic}{z:List T}{i:List Value}(h:PList w M z i): ∀n,PList w M (Ev.repl z n) (Ev.repl i n)
 |0=>by simp[Ev.repl,PList]
 |n+1=>by simp only[Ev.repl];exact PList.append h (PList.repl h n)
theorem C6{z:List T}(h:z.all single=true): ∀n,(repl z n).all single=true
 |0=>by simp[repl]
 |n+1=>by simp only[repl,List.all_append,Bool.and_eq_true];exact⟨h,C6 h n⟩
theorem EM{P:Program}{w:World}{t e:TypeId}{i:TypeInfo}{r:Value}{k:IntKind}{m:Int}(F:P.underlying t=some (.slice e))(hi:P.info? e=some i)(H:i.zero=some r)(K:0≤m)(Um:IntKind.i64.wrap m=m)
  (N:(i.bytes:Int)*m≤281474976710656) (O:m.toNat*i.bytes≤140737488355328):
  (Instr.makeSlice t (.int k m) (.int k m)).run P w= .ok (.slice (some ⟨w.heap.size,0,none⟩) m.toNat m.toNat) (w.alloc (.cells ((Array.range (m.toNat*i.size)).map (fun j=>r.cells[j%r.cells.size]!)) e)):=by
 have I: ¬(m<0):=by omega
 have U: ¬(281474976710656<(i.bytes:Int)*m):=by omega
 have V: ¬(140737488355328<m.toNat*i.bytes):=by omega
 have J: ¬(m.toNat*i.bytes>roomBytes):=by unfold roomBytes;omega
 simp only[Instr.makeSlice,Sem.run_bind,run_underlying F,Result.andThen_ok,asInt,asIntOf,Sem.run_pure,typeInfo,run_program,hi,Um]
 simp only[I,decide_false,Bool.false_or,Int.lt_irrefl,gt_iff_lt,Bool.or_false]
 rw[if_neg (by simp;omega)]
 simp only[Sem.run_bind,askRoom,if_neg J,Sem.run_pure,Result.andThen_ok,sizeOf,typeInfo,run_program,hi]
 by_cases D:m.toNat*i.size=0
 ·rw[if_pos D,D]
  have:Array.range 0= #[]:=rfl
  simp[newRow,this]
 ·rw[if_neg D]
  simp[newRow,zeroValue,typeInfo,hi,H]
section
variable{P:Program}{B:lK}{st:St}{a:Act}{w:World}{β:iA}{M:ic}{o:Oper}{v:T}{ups:List Up}
theorem zV(h:iH B st w β M)(el:TypeId)(c:Array Value)(cs:List T)(bx:Bool)(sp:Sp)(k g:Nat)(F:st.gens sp k<g)
  (H:pc sp bx β st.gens w M cs (c.toList.take cs.length)) (hs:cs.all single=true) (r:cs.length≤c.size):
  iH B (st.up (sp,k,⟨g,.cells cs 0 bx⟩)) (w.alloc (.cells c el)) (mW β sp k g ⟨w.heap.size,0,c.size⟩) (fun b x=>M b x∨b=w.heap.size)∧
  Tr st w β M (st.up (sp,k,⟨g,.cells cs 0 bx⟩)) (w.alloc (.cells c el)) (mW β sp k g ⟨w.heap.size,0,c.size⟩) (fun b x=>M b x∨b=w.heap.size):=by
 have I: ∀i k' D,D≤st.gens i k'→mW β sp k g ⟨w.heap.size,0,c.size⟩ i k' D=β i k' D:=by
  grind [xO]
 have J: ∀i k',st.gens i k'≤(st.up (sp,k,⟨g,.cells cs 0 bx⟩)).gens i k':=by
  intro i k'
  rw[kY]
  grind
 refine Ue h sp k g F (.cells c el) c.size (.cells cs 0 bx) ?_
 unfold kF
 simp only[jr]
 refine⟨c,el,(0,0),by rw[heap_alloc,if_pos rfl],by omega,r,rfl, ?_,fun j _ _=>Or.inr (by trivial),hs,Nat.zero_le _⟩
 simp only[List.drop_zero]
 exact pc.mono (sR w M _) I J H
theorem GM{o':Obj}{sp:Sp}{k g:Nat}{ob:Ob}{ext:Nat}{cv:Value}{v:T}(hr:(execOp a.eval o).run P w= .ok (.value cv) (w.alloc o'))
  (i:iH B (st.up (sp,k,⟨g,ob⟩)) (w.alloc o') (mW β sp k g ⟨w.heap.size,0,ext⟩) (fun b x=>M b x∨b=w.heap.size)∧
    Tr st w β M (st.up (sp,k,⟨g,ob⟩)) (w.alloc o') (mW β sp k g ⟨w.heap.size,0,ext⟩) (fun b x=>M b x∨b=w.heap.size))
  (r:fy (mW β sp k g ⟨w.heap.size,0,ext⟩) (st.up (sp,k,⟨g,ob⟩)).gens (w.alloc o') (fun b x=>M b x∨b=w.heap.size) v cv):kP P B st a w β M o v [(sp,k,⟨g,ob⟩)]:=
 ⟨_,cv,_,_,_,hr,.inl rfl,i.1,i.2,by show _≤(w.heap.push o').size;simp,r⟩
theorem Tr.less{M':ic}(hs: ∀b x,M' b x→M b x):Tr st w β M st w β M':=⟨j6 hs,fun _ _ _ _=>rfl,fun _ _=>Nat.le_refl _⟩
theorem kP.less{M':ic}(hs: ∀b x,M' b x→M b x)(h:kP P B st a w β M' o v ups):kP P B st a w β M o v ups:=by
 obtain⟨i,cv,w',r,M2,D,F,H,I,J,K⟩:=h
 exact⟨i,cv,w',r,M2,D,F,H,(Tr.less hs).trans I (Nat.le_refl _),J,K⟩
theorem xW{l:List Value}{n:Nat}(h:n=l.length):l.take n=l:=by subst h;simp
variable(kD:pd β st.gens w M st.rho a.eval)(h:iH B st w β M)
include h
theorem Un{d:Nat}{sh:Bool}{t:TypeId}{z:T}(F:o.op= .alloc t)(H:rV P t=some z)(GL:noTup z=true)
  (r:(iX d st.rho (.alloc (cellsOf z) sh)).run st.get st.sh.length=some (.val v ups)):kP P B st a w β M o v ups:=by
 simp only[iX]at r
 obtain⟨sp,k,g,rfl,rfl,I,J⟩:=oD r
 obtain⟨K,N,O⟩:=FC H w
 obtain⟨D,U⟩:=xT (O w M) GL
 have i:=PList.length _ _ D
 refine GM (cv:= .pointer (some ⟨w.heap.size,0,none⟩)) ?_ (zV h t K.cells (cellsOf z) true sp k g I (by rw[xW i];exact pc.ofP D) U (by rw[i];simp)) ?_
 ·simp[execOp,F,Instr.alloc,N,newVar,newRow]
 ·simp[fy,jr,kY]
include kD
theorem agS{d:Nat}{sh:Bool}{t:TypeId}{x:Operand}{F:im}(V:o.op= .box t x)(hx:lE x=some F)
  (i:(iX d st.rho (.box F sh)).run st.get st.sh.length=some (.val v ups)):kP P B st a w β M o v ups:=by
 have W:=kD x F hx
 simp only[iX]at i
 split at i
 ·simp[Q.run]at i
 ·rename_i Jq
  simp at Jq
  have H: ∀(M':ic) (r:T),iH B st w β M'→noTup r=true→ ∀sp k g,st.gens sp k<g→(match sp with| .L=>fy β st.gens w M' r (a.eval x)| .S=>sS true β st.gens w M' r (a.eval x))→kP P B st a w β M' o (.ptr sp k g 0) [(sp,k,⟨g,.cells (cellsOf r) 0 true⟩)]:=by
   intro M' r X Jq sp k g I Y
   have J:fy β st.gens w M' r (a.eval x):=by
    grind [sS.toV]
   obtain⟨N,Z⟩:=sW J Jq
   have D:=gO.length _ _ N
   refine GM (cv:= .pointer (some ⟨w.heap.size,0,none⟩)) ?_ (zV X t (a.eval x).cells (cellsOf r) true sp k g I (by
    rw[xW D]
    cases sp
    ·exact N
    ·exact fun iC G' p q=>(sW (Y iC G' p q) Jq).1) Z (by rw[D];simp)) ?_
   ·simp[execOp,V,Instr.box,newVar,newRow]
   ·simp[fy,jr,kY]
  split at i
  ·simp only[Q.run_bind]at i
   cases K:(fz true iq (st.rho F)).run st.get st.sh.length with
   |none=>simp[K]at i
   |some p=>
    obtain⟨r,us⟩:=p
    simp only[K,Option.bind_some]at i
    split at i
    ·rename_i O
     simp at O
     obtain⟨rfl,Y0⟩:=O
     obtain⟨sp,k,g,rfl,rfl,I,hgs⟩:=oD i
     obtain⟨M',q1,q2,q3,U,q5⟩:=AR true st iq (st.rho F) B st w β M _ r [] _ (Fz.refl st) h W K
     exact kP.less q3 (H M' r q1 Y0 sp k g I (by cases sp;exact U.toV;exact U))
    ·simp[Q.run]at i
  grind [oD]
omit kD in
theorem Uo{d:Nat}{sh:Bool}{t:TypeId}(r:o.op= .makeMap t none)(i:(iX d st.rho (.mkmap sh)).run st.get st.sh.length=some (.val v ups)):kP P B st a w β M o v ups:=by
 simp only[iX]at i
 obtain⟨sp,k,g,rfl,rfl,D,F⟩:=oD i
 refine GM (ext:=0) (cv:= .map (some w.heap.size)) (o':= .map #[] 0) ?_ (Ue h sp k g D (.map #[] 0) 0 (.map [] [] false) ?_) ?_
 ·simp[execOp,r,Instr.makeMap]
 ·unfold kF
  simp only[jr]
  exact⟨#[],0,by rw[heap_alloc,if_pos rfl],MapKept.stamped_empty 0,by simp[PList],by simp[PList],fun _ _=>Or.inr (by trivial)⟩
 ·simp[fy,jr,kY]
theorem ZW{d:Nat}{sh:Bool}{t e:TypeId}{l c:Operand}{N:im}{i:TypeInfo}{z:T}(ho:o.op= .makeSlice t l c)(ht:P.underlying t=some (.slice e))(hi:P.info? e=some i)(hz:rV P e=some z)(hl:lE l=some N)(O:GF l c=true)
  (GL:noTup z=true) (K:i.size=(cellsOf z).length) (h0:i.size≠0)
  (F:(iX d st.rho (.mksl (cellsOf z) i.bytes N sh)).run st.get st.sh.length=some (.val v ups)):kP P B st a w β M o v ups:=by
 have Z:=kD l N hl
 have ec:a.eval c=a.eval l:=by
  unfold GF at O
  grind
 simp only[iX]at F
 split at F
 ·rename_i n en
  obtain⟨k0,m,em,hm,rfl⟩:=nq en
  rw[em]at Z
  have el:=Z.int
  split at F
  ·rename_i ma
   simp at ma
   obtain⟨U,NS⟩:=ma
   obtain⟨sp,k,g,rfl,rfl,hg,hgs⟩:=oD F
   obtain⟨i',r,V,z2,z3⟩:=xS hz
   rw[hi]at V;simp at V;subst V
   obtain⟨c1,c2⟩:=xT (w:=w) (M:=M) (ql z3) GL
   have H:=PList.length _ _ c1
   have W:r.cells.size=i.size:=by rw[K,H];simp
   have X:=C5 r.cells m.toNat (by omega)
   have Y:roomy=1099511627776:=rfl
   rw[Y]at U NS
   have Um:IntKind.i64.wrap m=m:=by
    simp[IntKind.wrap,IntKind.bits,IntKind.signed];omega
   have I:((Array.range (m.toNat*i.size)).map (fun j=>r.cells[j%r.cells.size]!)).size=m.toNat*i.size:=by simp
   refine GM (cv:= .slice (some ⟨w.heap.size,0,none⟩) m.toNat m.toNat) ?_ (zV h e ((Array.range (m.toNat*i.size)).map (fun j=>r.cells[j%r.cells.size]!)) (repl (cellsOf z) m.toNat) (Uc (cellsOf z)) sp k g hg ?_ (C6 c2 _) ?_) ?_
   ·have J:(i.bytes:Int)*m=((m.toNat*i.bytes:Nat):Int):=by rw[Int.natCast_mul,Int.toNat_of_nonneg hm,Int.mul_comm]
    have:=EM (P:=P) (w:=w) (k:=k0) ht hi z2 hm Um (by rw[J];omega) (by omega)
    simp[execOp,ho,ec,el,this]
   ·have D:PList w M (repl (cellsOf z) m.toNat) (((Array.range (m.toNat*i.size)).map (fun j=>r.cells[j%r.cells.size]!)).toList.take (repl (cellsOf z) m.toNat).length):=by
     rw[xV,←K,←W,X]
     have:=PList.repl c1 m.toNat
     rw[xW]
     ·exact this
     ·rw[xV];simp
    cases hb:Uc (cellsOf z)with
    |false=>exact D
    |true=>
     cases sp with
     |L=>exact PList.toV β st.gens _ _ D
     |S=>exact fun iC G' _ _=>PList.toV iC G' _ _ D
   ·rw[I,xV,K];exact Nat.le_refl _
   ·simp only[fy,jr,kY]
    refine⟨by simp,m.toNat,rfl,Nat.le_refl _, ?_⟩
    rw[I,K];simp
  ·simp[Q.run]at F
 ·simp[Q.run]at F
end
end Go.Ev
namespace Go.Ev
open Go
theorem pW(st:St): ∀(us:List Up) (sp:Sp) (k:Nat),oB us sp k=false→(st.ups us).get sp k=st.get sp k:=by
 intro us
 induction us generalizing st with
 |nil=>intro sp k _;rfl
 |cons u us ih=>
  grind [oB,Bool.or_eq_false_iff,St.ups,lN]
theorem aeJ(st:St)(u:Up):(st.up u).fr=st.fr:=by obtain⟨sp,k,e⟩:=u;cases sp <;> rfl
theorem GN(st:St): ∀(us:List Up),(st.ups us).fr=st.fr:=by
 intro us
 induction us generalizing st with
 |nil=>rfl
 |cons u us ih=>grind [St.ups,aeJ]
theorem AY: ∀{ps:List (Nat×Operand)} {r:List (Nat×im)},uZ ps=some r→ps.length=r.length∧ ∀(j i:Nat) (x:Operand) (D:Nat) (y:im),ps[j]? =some (i,x)→r[j]? =some (D,y)→D=i∧lE x=some y
 | [],r,h=>by grind [uZ]
 |(H,x0)::ps,r,h=>by
  simp only[uZ]at h
  split at h
  ·rename_i y I J F
   simp at h;subst h
   obtain⟨a1,a2⟩:=AY F
   grind
  ·cases h
theorem Jr{w:World}{M:ic}{place:Nat→Option (Nat×Nat)}: ∀(parts:List (Nat×Value)) (ps:List (Nat×List T)) (F:List T) (D:Array Value) (rs:List T),
  PList w M F D.toList→F.all single=true→parts.length=ps.length→(∀(j i:Nat) (cv:Value) (off:Nat) (ts:List T),parts[j]? =some (i,cv)→ps[j]? =some (off,ts)→place i=some (off,ts.length)∧PList w M ts cv.cells.toList∧ts.all single=true)→
  pO F ps=some rs→ ∃rc,Instr.fill place D parts=some rc∧PList w M rs rc.toList∧rs.all single=true∧rs.length=F.length
 | [],ps,F,D,rs,I,hs,r,J,H=>by
   grind [pO,Instr.fill]
 |(i,cv)::parts,ps,F,D,rs,I,hs,r,J,H=>by
  cases ps with
  |nil=>simp at r
  |cons p ps=>
   obtain⟨off,ts⟩:=p
   simp only[pO]at H
   split at H
   ·rename_i N
    obtain⟨V,K,O⟩:=J 0 i cv off ts rfl rfl
    have C1:=PList.length _ _ K
    have Ll:=PList.length _ _ I
    have W:cv.cells.size=ts.length:=by rw[C1];simp
    have U:D.size=F.length:=by rw[Ll];simp
    have hc: ¬((cv.cells.size≠ts.length||off+cv.cells.size>D.size)=true):=by
     grind
    have e:(cv.cells.zipIdx.foldl (fun(cs:Array Value) (p:Value×Nat)=>cs.setIfInBounds (off+p.2) p.1) D).toList=splice D.toList off cv.cells.toList:=by
     have:=zU off cv.cells.toList 0 D
     grind [Array.toList_zipIdx]
    obtain⟨rc,X,Y,Z,r4⟩:=Jr parts ps (splice F off ts) (cv.cells.zipIdx.foldl (fun(cs:Array Value) (p:Value×Nat)=>cs.setIfInBounds (off+p.2) p.1) D) rs
     (by rw[e];exact PList.splice I K) (sX hs O) (by simpa using r) (fun j i cv off ts a b=>J (j+1) i cv off ts (by simpa using a) (by simpa using b)) H
    grind [jW,Instr.fill]
   ·cases H
theorem C7{P:Program}{w:World}{t e:TypeId}{len n:Nat}{i:TypeInfo}{F:Value}{parts:Array (Nat×Value)}{rc:Array Value}(H:P.underlying t=some (.slice e))(hi:P.info? e=some i)(K:i.size=n)(N:i.zero=some F)(O:len*n≤16777216)
  (FD:Instr.fill (fun j=>some (j*n,n)) ((Array.range (len*n)).map (fun j=>F.cells[j%F.cells.size]!)) parts.toList=some rc):
  (Instr.buildSlice t len parts).run P w= .ok (.slice (some ⟨w.heap.size,0,none⟩) len len) (w.alloc (.cells rc e)):=by
 have Js: ¬(len*n>2 ^ 24):=by omega
 have D:(sizeOf e).run P w= .ok n w:=by simp[sizeOf,typeInfo,hi,K]
 have r:(zeroValue e).run P w= .ok F w:=by simp[zeroValue,typeInfo,hi,N]
 unfold Instr.buildSlice
 by_cases I:len*n=0
 ·have J: ∀f:Nat→Value,(Array.range (len*n)).map f= #[]:=by
   grind
  rw[J]at FD
  simp only[Sem.run_bind,run_underlying H,Result.andThen_ok,D,if_neg Js,if_pos I,Sem.run_pure,J,FD]
  simp[newRow]
 ·simp only[Sem.run_bind,run_underlying H,Result.andThen_ok,D,if_neg Js,if_neg I,Sem.run_pure,r,FD]
  simp[newRow]
section
variable{P:Program}{B:lK}{st:St}{a:Act}{w:World}{β:iA}{M:ic}{o:Oper}{v:T}{ups:List Up}
variable(kD:pd β st.gens w M st.rho a.eval)(h:iH B st w β M)
theorem Tr.fz{i:St}{M':ic}(r:Fz st i)(hs: ∀b x,M' b x→M b x):Tr st w β M i w β M':=
 ⟨j6 hs,fun _ _ _ _=>rfl,fun sp k=>by rw[r.gens];exact Nat.le_refl _⟩
include kD h
theorem agV{d K:Nat}{t e:TypeId}{len:Nat}{ps:Array (Nat×Operand)}{r:List (Nat×im)}{z:T}{n:Nat}(ho:o.op= .buildSlice t len ps)(ht:P.underlying t=some (.slice e))(hz:rV P e=some z)(N:lA P e=some n)(hr:uZ ps.toList=some r)
  (GL:noTup z=true) (O:n=(cellsOf z).length) (h0:n≠0) (Bu:len*n≤16777216)
  (D:(iX d st.rho (.bsl (cellsOf z) len r)).run st.get K=some (.val v ups)):kP P B st a w β M o v ups:=by
 simp only[iX,Q.run_bind]at D
 cases U:(iL (Ev.fz false iq) (r.map fun p=>st.rho p.2)).run st.get K with
 |none=>simp[U]at D
 |some p=>
  obtain⟨ts,us⟩:=p
  simp only[U,Option.bind_some]at D
  split at D
  ·rename_i jN
   split at D
   ·rename_i cs hf
    simp[Q.run]at D;obtain⟨rfl,rfl⟩:=D
    obtain⟨g1,g2⟩:=AY hr
    have uo:gO β st.gens w M (r.map fun p=>st.rho p.2) (ps.toList.map fun p=>a.eval p.2):=by
     have gen: ∀(H:List (Nat×Operand)) (rs:List (Nat×im)),H.length=rs.length→(∀(j i:Nat) (x:Operand) (J:Nat) (y:im),H[j]? =some (i,x)→rs[j]? =some (J,y)→J=i∧lE x=some y)→gO β st.gens w M (rs.map fun p=>st.rho p.2) (H.map fun p=>a.eval p.2):=by
      intro H
      induction H with
      |nil=>grind [gO]
      |cons q H ih=>
       intro rs hl hg
       cases rs with
       |nil=>simp at hl
       |cons rr rs=>
        simp only[List.map_cons,gO]
        exact⟨_,_,rfl,kD _ _ (hg 0 q.1 q.2 rr.1 rr.2 rfl rfl).2,ih rs (by simpa using hl) (fun j i x J y a b=>hg (j+1) i x J y (by simpa using a) (by simpa using b))⟩
     grind
    obtain⟨M',q1,q2,q3,q4,q5,q6⟩:=oQ (fun t=>AR false st iq t) _ B st w β M _ ts us K (Fz.refl st) h uo U
    have V:PList w M' ts (ps.toList.map fun p=>a.eval p.2):=q4
    obtain⟨i,W,z1,z2,z3⟩:=xS hz
    obtain⟨c1,c2⟩:=xT (w:=w) (M:=M') (ql z3) GL
    have X:=PList.length _ _ c1
    have Y:i.size=n:=by unfold lA at N;rw[z1]at N;simpa using N
    have I:W.cells.size=n:=by rw[O,X];simp
    have Z:=C5 W.cells len (by omega)
    rw[I]at Z
    have aqx:PList w M' (repl (cellsOf z) len) ((Array.range (len*n)).map (fun j=>W.cells[j%n]!)).toList:=by
     grind [PList.repl]
    obtain⟨rc,r1,r2,r3,r4⟩:=Jr (place:=fun i=>some (i*n,n)) (ps.toList.map fun p=>(p.1,a.eval p.2)) _ (repl (cellsOf z) len) _ cs aqx (C6 c2 len) (by simp[g1,q6]) (by
     intro j i cv off tt b1 b2
     rw[List.getElem?_map,Option.map_eq_some_iff]at b1
     obtain⟨⟨i1,x⟩,c3,c4⟩:=b1
     simp at c4;obtain⟨rfl,rfl⟩:=c4
     rw[List.getElem?_zip_eq_some]at b2
     obtain⟨b3,b4⟩:=b2
     rw[List.getElem?_map,Option.map_eq_some_iff]at b3 b4
     obtain⟨⟨i2,y⟩,d1,d2⟩:=b3
     obtain⟨tv,d3,d4⟩:=b4
     obtain⟨e1,e2⟩:=g2 j i1 x i2 y c3 d1
     subst e1
     simp at d2
     obtain⟨cv',f1,f2⟩:=V.get d3
     rw[List.getElem?_map,c3]at f1
     simp at f1;subst f1
     have F:=(List.all_eq_true.1 jN) _ (List.mem_of_getElem? d3)
     simp at F
     obtain⟨k1,k2⟩:=xT f2 F.2
     subst d4
     exact⟨by rw[F.1,←O,←d2,O],k1,k2⟩) hf
    obtain⟨p1,p2⟩:=agz q1 (.cells rc e)
    refine⟨_,.slice (some ⟨w.heap.size,0,none⟩) len len,w.alloc (.cells rc e),β,M', ?_,.inl rfl,p1,(Tr.fz q2 q3).trans p2 (Nat.le_refl _),by show _≤(w.heap.push _).size;simp, ?_⟩
    ·have:=C7 (P:=P) (w:=w) (t:=t) (e:=e) (len:=len) (n:=n) (parts:=ps.map fun(i,x)=>(i,a.eval x)) (rc:=rc) ht z1 Y z2 Bu (by rw[I];simpa using r1)
     simp[execOp,ho,this]
    ·simp only[fy,PRel]
     refine⟨w.heap.size,0,len,none,rfl,Nat.le_refl _,fun _=>rfl,.inl rfl, ?_⟩
     have H9:=PList.length _ _ r2
     refine PCells.of (c:=rc) (el:=e) (fz:=(0,0)) (by rw[heap_alloc,if_pos rfl]) _ _ ?_ ?_ r3
     ·rw[List.drop_zero,xW H9];exact PList.mono p2.keep _ _ r2
     ·intro x _ _ hmx
      exact Nat.lt_irrefl _ (q1.mlt _ _ hmx)
   ·simp[Q.run]at D
  ·simp[Q.run]at D
end
end Go.Ev
namespace Go.Ev
open Go
theorem pG{w:World}{g:Nat}{Y1 cs:Array Value}{t:TypeId}{fr:Nat×Nat}(i:w.heap[g]? =some (.cells Y1 t fr)):w.setRow g cs=setBlock w g (.cells cs t fr):=by
 unfold World.setRow setBlock
 congr 1
 grind
theorem fy.one{β:iA}{G:Sp→Nat→Nat}{w:World}{M:ic}{t:T}{cv:Value}(h:fy β G w M t cv)(hs:single t=true):cv.oneCell'=true:=by
 cases t <;> simp[single]at hs <;> simp only[fy,PRel]at h
 all_goals first
  |(subst h;rfl)
  |(obtain⟨_,rfl,_⟩:=h;rfl)
  |(obtain⟨_,_,rfl,_⟩:=h;rfl)
  |(obtain⟨_,_,_,rfl,_⟩:=h;rfl)
  |(obtain⟨_,_,_,_,rfl,_⟩:=h;rfl)
  |(obtain⟨_,rfl⟩:=h;rfl)
theorem gO.one{β:iA}{G:Sp→Nat→Nat}{w:World}{M:ic}: ∀{ts:List T} {i:List Value},gO β G w M ts i→ts.all single=true→ ∀v∈i,v.oneCell'=true
 | [],i,h,_=>by grind [gO]
 |t::ts,i,h,hs=>by
  simp only[gO]at h
  obtain⟨u,us,rfl,r,D⟩:=h
  simp only[List.all_cons,Bool.and_eq_true]at hs
  intro v hv
  simp at hv
  rcases hv with rfl|hv
  ·exact r.one hs.1
  ·exact gO.one D hs.2 v hv
theorem ZX(l i:List Value)(k:Nat)(hk:k+i.length≤l.length)(j:Nat):(l.take k++i++l.drop (k+i.length))[j]? =(splice l k i)[j]? :=by
 rw[lF]
 grind
theorem C8(l i:List Value)(k:Nat)(hk:k+i.length≤l.length):l.take k++i++l.drop (k+i.length)=splice l k i:=by
 apply List.ext_getElem?;intro j;exact ZX l i k hk j
section
variable{P:Program}{B:lK}{st:St}{a:Act}{w:World}{β:iA}{M:ic}{o:Oper}{v:T}{ups:List Up}
theorem xX(h:iH B st w β M){sp:Sp}{k g wm:Nat}{cs:List T}{bx:Bool}(U:st.get sp k=⟨g,.cells cs wm bx⟩)(i:Nat)(V:g≤i){c:Array Value}{el:TypeId}
  (W:w.heap[(β sp k g).blk]? =some (.cells c el (0,0))) (off:Nat) (r:List Value) (So:List T) (Jt:wm≤off) (Ju:off+r.length≤(β sp k g).ext) (hle:wm≤So.length) (X:So.length≤(β sp k g).ext) (hs:So.all single=true)
  (hl:pc sp bx β st.gens w M So ((splice (c.toList.drop (β sp k g).off) off r).take So.length)):
  iH B (st.up (sp,k,⟨i,.cells So wm bx⟩)) (setBlock w (β sp k g).blk (.cells (splice c.toList ((β sp k g).off+off) r).toArray el)) (mW β sp k i (β sp k g)) M∧
  Tr st w β M (st.up (sp,k,⟨i,.cells So wm bx⟩)) (setBlock w (β sp k g).blk (.cells (splice c.toList ((β sp k g).off+off) r).toArray el)) (mW β sp k i (β sp k g)) M:=by
 have Y:st.gens sp k=g:=by show(st.get sp k).g=g;rw[U]
 have J:live (st.get sp k):=by rw[U];trivial
 have Z:=h.obj sp k
 rw[U]at Z
 unfold kF at Z
 obtain⟨c0,el0,fz0,O,h2,h3,h4,h5,h6,h7,h8⟩:=Z
 dsimp only at O h2 h3 h4 h6
 rw[W]at O
 simp at O
 obtain⟨rfl,rfl,rfl⟩:=O
 have ZY:=qU W
 have hk:ku w M (setBlock w (β sp k g).blk (.cells (splice c.toList ((β sp k g).off+off) r).toArray el)) M:=by
  refine⟨fun b x u H I=> ?_,fun b es cl H I=> ?_,fun _ _ _ h=>h⟩
  ·by_cases K:b=(β sp k g).blk
   ·subst K
    unfold World.cell? at H ⊢
    rw[W]at H
    rw[kg,if_pos ⟨rfl,ZY⟩]
    simp at H ⊢
    rw[lF,if_neg]
    ·simpa using H
    ·rintro⟨q1,q2,q3⟩
     apply I
     have:=h6 (x-(β sp k g).off) (by omega) (by omega)
     rwa [show(β sp k g).off+(x-(β sp k g).off)=x by omega]at this
   ·rw[nM (w:=w) (by rw[kg,if_neg (fun e=>K e.1)])];exact H
  grind [kg]
 have Uq: ∀D k' F,F≤st.gens D k'→mW β sp k i (β sp k g) D k' F=β D k' F:=by
  grind [jr,xO]
 have hG: ∀D k',st.gens D k'≤(st.up (sp,k,⟨i,.cells So wm bx⟩)).gens D k':=by
  intro D k';rw[kY];split
  ·grind
  ·grind
 have N:=NH (M':=M) h sp k i (.cells So wm bx) J (by rw[Y];exact V) (.cells (splice c.toList ((β sp k g).off+off) r).toArray el) (fun _ _ I=>I) (fun _ _ _ I=>I) (by rw[Y];exact hk) (h.base J)
 rw[Y]at N
 refine N ?_
 unfold kF
 simp only[jr]
 refine⟨_,el,(0,0),by rw[kg,if_pos ⟨rfl,ZY⟩],by simp[jW];omega,X,rfl, ?_,h6,hs,by omega⟩
 have aqA:(splice c.toList ((β sp k g).off+off) r).drop (β sp k g).off=splice (c.toList.drop (β sp k g).off) off r:=by
  apply List.ext_getElem?
  grind [lF,List.length_drop]
 simp only[List.toList_toArray]at aqA ⊢
 grind [pc.mono]
variable(kD:pd β st.gens w M st.rho a.eval)(h:iH B st w β M)
include h
omit h in
theorem FE{M':ic}{us:List Up}{t:TypeId}{n:Nat}{x y:Operand}{sp:Sp}{k g off wm:Nat}{cs:List T}{bx:Bool}{ts:List T}(ho:o.op= .store t x y)(hn:lA P t=some n)(U:iH B (st.ups us) w β M')(K:Tr st w β M (st.ups us) w β M')
  (hx:a.eval x= .pointer (some ⟨(β sp k g).blk,(β sp k g).off+off,none⟩)) (V:(st.ups us).get sp k=⟨g,.cells cs wm bx⟩) (Jt:wm≤off) (hle:off+n≤cs.length) (W:ts.length=n) (hs:ts.all single=true)
  (D:pc sp bx β (st.ups us).gens w M' ts (a.eval y).cells.toList):
  kP P B st a w β M o iG (us++ [(sp,k,⟨g,.cells (splice cs off ts) wm bx⟩)]):=by
 have Bs:=U.obj sp k
 rw[V]at Bs
 unfold kF at Bs
 obtain⟨c,el,fz,F,h2,X,Y,H,h6,h7,h8⟩:=Bs
 dsimp only at F h2 X Y H h6
 subst Y
 have r:gO β (st.ups us).gens w M' ts (a.eval y).cells.toList:=D.toV
 have N:=gO.length _ _ r
 have Ur:=gO.one r hs
 have I:=run_storeCells_at P (β sp k g).blk ((β sp k g).off+off) el (a.eval y).cells.toList 0 c w F (by simp at N ⊢; omega) Ur
 rw[pG F]at I
 simp only[Nat.add_zero]at I
 rw[C8 _ _ _ (by simp at N ⊢; omega)]at I
 have i:=xX U V g (Nat.le_refl _) F off (a.eval y).cells.toList (splice cs off ts) Jt (by omega) (by rw[jW];omega) (by rw[jW];exact X) (sX h7 hs) (by
  rw[jW]
  have Us:(splice (c.toList.drop (β sp k g).off) off (a.eval y).cells.toList).take cs.length=splice ((c.toList.drop (β sp k g).off).take cs.length) off (a.eval y).cells.toList:=by
   apply List.ext_getElem?
   intro j
   rw[List.getElem?_take,lF,lF,List.getElem?_take,List.length_take]
   by_cases J:j<cs.length
   ·rw[if_pos J,if_pos J]
    by_cases hc:off≤j∧j<off+(a.eval y).cells.toList.length∧j<(c.toList.drop (β sp k g).off).length
    ·rw[if_pos hc,if_pos (by omega)]
    ·rw[if_neg hc,if_neg (by omega)]
   ·rw[if_neg J,if_neg J,if_neg (by omega)]
  rw[Us]
  cases bx
  ·exact PList.splice H D
  ·cases sp
   ·exact gO.splice H D
   ·exact fun Z G' p q=>gO.splice (H Z G' p q) (D Z G' p q))
 rw[rY]at i
 refine⟨.skip,undef,setBlock w (β sp k g).blk (.cells (splice c.toList ((β sp k g).off+off) (a.eval y).cells.toList).toArray el),β,M', ?_,.inr ⟨rfl,rfl⟩, ?_, ?_,by rw[kM];exact Nat.le_refl _, ?_⟩
 ·have O:(a.eval y).cells.size=n:=by simp at N;omega
  simp[execOp,ho,hx,Instr.storeAt,Instr.sureAddr,storeVar,mH hn,O,I]
 ·rw[ky];exact i.1
 ·rw[ky];exact K.trans i.2 (Nat.le_refl _)
 ·simp[fy,iG,undef,gO]
include kD
theorem aqB{d:Nat}{t:TypeId}{n:Nat}{x y:Operand}{J D:im}(U:o.op= .store t x y)(hx:lE x=some J)(hy:lE y=some D)(V:lA P t=some n)
  (i:(iX d st.rho (.st J D n)).run st.get st.sh.length=some (.val v ups)):kP P B st a w β M o v ups:=by
 have I:=kD x J hx
 have W:=kD y D hy
 simp only[iX,ry]at i
 split at i
 ·simp[Q.run]at i
 ·rename_i hc
  simp at hc
  obtain⟨F,Jq⟩:=hc
  split at i
  ·rename_i sp k g off ex
   rw[ex]at I
   simp only[fy]at I
   simp only[Q.run]at i
   split at i
   ·rename_i X
    generalize Y:st.get sp k=e at*
    obtain⟨ge,ob⟩:=e
    dsimp only at X;subst X
    cases ob with
    |none=>simp[Q.run]at i
    |map _ _ _=>simp[Q.run]at i
    |cells cs wm bx=>
     dsimp only at i
     split at i
     ·rename_i Jt
      simp at Jt
      split at i
      ·rename_i LN
       simp at LN
       obtain⟨rfl,rfl⟩:=LN
       simp[Q.run]at i;obtain⟨rfl,rfl⟩:=i
       obtain⟨k1,k2⟩:=sW W Jq
       exact FE (us:= []) U V h (Tr.refl _ _ _ _) I.2 Y Jt.1 Jt.2 F k2 k1
      ·rename_i LN
       simp only[Q.run_bind]at i
       cases K:(fz (bx&&sp== .S) iq (st.rho D)).run st.get st.sh.length with
       |none=>simp[K]at i
       |some p=>
        obtain⟨t',us⟩:=p
        simp only[K,Option.bind_some]at i
        split at i
        ·simp[Q.run]at i
        ·rename_i Z
         simp at Z
         obtain⟨⟨N,r⟩,O⟩:=Z
         simp[Q.run]at i;obtain⟨rfl,rfl⟩:=i
         obtain⟨M',q1,q2,q3,H,q5⟩:=AR _ st iq (st.rho D) B st w β M _ t' us _ (Fz.refl st) h W K
         have NT:(st.ups us).get sp k=⟨ge,.cells cs wm bx⟩:=by rw[pW st us sp k N];exact Y
         refine FE (us:=us) U V q1 (Tr.fz q2 q3) I.2 NT Jt.1 Jt.2 O ?_ ?_
         ·exact(sW H.toV r).2
         ·cases bx with
          |false=>
           simp only[Bool.false_and]at H
           exact(xT H r).1
          |true=>
           cases sp with
           |L=>simp at LN
           |S=>
            simp only[Bool.true_and,beq_self_eq_true]at H
            rw[q2.gens]
            exact fun iC G' p q=>(sW (H iC G' p q) r).1
     ·simp[Q.run]at i
   ·simp[Q.run]at i
  ·simp[Q.run]at i
end
end Go.Ev
namespace Go.Ev
open Go
section
variable{P:Program}{B:lK}{st:St}{a:Act}{w:World}{β:iA}{M:ic}{o:Oper}{v:T}{ups:List Up}
variable(kD:pd β st.gens w M st.rho a.eval)(h:iH B st w β M)
theorem LO{t O et:TypeId}{ek:EK}{m:Option Nat}{es:Array MapEntry}{F:Nat}{ks vs:List T}{k z r:T}{kv U:Value}{K:Bool}(ht:P.underlying t=some (.map O et))(hk:keyOf P O=some ek)
  (hm:(m=none∧es= #[])∨ ∃H,m=some H∧w.heap[H]? =some (.map es F)) (N:PList w M ks (es.toList.map (·.key))) (V:PList w M vs (es.toList.map (·.val))) (J:fy β st.gens w M k kv) (hz:(zeroValue et).run P w= .ok U w) (hzr:PRel w M z U)
  (I:na ek ks vs k z K=some r): ∃cv,(Instr.lookup t (.map m) kv K).run P w= .ok cv w∧fy β st.gens w M r cv:=by
 unfold na at I
 split at I
 ·cases I
 ·rename_i NQ
  simp at NQ
  have C4:(Instr.checkKey es.isEmpty 10000 O kv).run P w= .ok () w:=AW (P:=P) hk J NQ 9998 es.isEmpty
  have W: ∀D,(Instr.findKey O kv es.toList).run P w= .ok D w→(Instr.lookup t (.map m) kv K).run P w=
    .ok (match D with|some (_,cv)=>if K then .tuple #[cv,.bool true]else cv|none=>if K then .tuple #[U,.bool false]else U) w:=by
   intro D EN
   unfold Instr.lookup
   rcases hm with⟨rfl,rfl⟩|⟨H,rfl,hb⟩
   ·simp only[Sem.run_bind,run_underlying ht,Result.andThen_ok,Sem.run_pure,C4,EN]
    cases D with
    |none=>simp[hz]
    |some p=>simp
   ·have Bv:(getObj H).run P w= .ok (.map es F) w:=by simp[getObj,Sem.run,hb]
    simp only[Sem.run_bind,run_underlying ht,Result.andThen_ok,Sem.run_pure,Bv,C4,EN]
    cases D with
    |none=>simp[hz]
    |some p=>simp
  split at I
  ·rename_i i X
   obtain⟨D,r1,Y⟩:=sV (P:=P) hk J es.toList ks _ N X
   obtain⟨e,e1,e2⟩:=Y
   simp only[Option.map_eq_some_iff]at I
   obtain⟨v',Z,rfl⟩:=I
   obtain⟨cv,c1,c2⟩:=V.get Z
   grind [fy,gO,PRel.toV]
  ·rename_i X
   simp at I;subst I
   obtain⟨D,r1,Y⟩:=sV (P:=P) hk J es.toList ks _ N X
   refine⟨_,W D r1, ?_⟩
   have:D=none:=Y
   grind [fy,gO,PRel.toV]
  ·cases I
include kD h
theorem aqF{d nx:Nat}{t kt et:TypeId}{m k:Operand}{X k':im}{N:Bool}{ek:EK}{z:T}(ho:o.op= .lookup t m k N)(hm:lE m=some X)(hk:lE k=some k')(ht:P.underlying t=some (.map kt et))(Y:keyOf P kt=some ek)(hz:rV P et=some z)
  (D:(iX d st.rho (.lk ek X k' z N)).run st.get nx=some (.val v ups)):kP P B st a w β M o v ups:=by
 have F:=kD m X hm
 have vk:=kD k k' hk
 obtain⟨zv,z1,z2⟩:=FC hz w
 have J: ∀(W:Option Nat) (es:Array MapEntry) (i:Nat) (ks H:List T) (r:T),a.eval m= .map W→((W=none∧es= #[])∨ ∃I,W=some I∧w.heap[I]? =some (.map es i))→PList w M ks (es.toList.map (·.key))→PList w M H (es.toList.map (·.val))→
   na ek ks H (st.rho k') z N=some r→kP P B st a w β M o r []:=by
  intro W es i ks H r Z O U V e5
  obtain⟨cv,r1,r2⟩:=LO (P:=P) (β:=β) (st:=st) ht Y O U V vk z1 (z2 w M) e5
  exact iB h (cv:=cv) (by simp[execOp,ho,Z,r1]) r2
 simp only[iX]at D
 split at D
 ·rename_i e
  rw[e]at F;simp only[fy]at F
  split at D
  ·rename_i NQ
   simp[Q.run]at D;obtain⟨rfl,rfl⟩:=D
   exact J none #[] 0 [] [] _ F (.inl ⟨rfl,rfl⟩) (by simp[PList]) (by simp[PList]) (by simp[na,NQ,mK])
  ·simp[Q.run]at D
 ·rename_i ks H e
  rw[e]at F;simp only[fy,PRel]at F
  obtain⟨I,es,i,Z,O,_,_,U,V⟩:=F
  cases K:na ek ks H (st.rho k') z N with
  |none=>simp[K,Ev.val,Q.run]at D
  |some r=>
   simp[K,Ev.val,Q.run]at D;obtain⟨rfl,rfl⟩:=D
   exact J _ es i ks H _ Z (.inr ⟨I,rfl,O⟩) U V K
 ·rename_i sp kk g e
  rw[e]at F;simp only[fy]at F
  simp only[Q.run]at D
  split at D
  ·rename_i hg
   have Bs:=h.obj sp kk
   generalize he:st.get sp kk=en at*
   obtain⟨ge,ob⟩:=en
   dsimp only at hg;subst hg
   cases ob with
   |none=>simp[Q.run]at D
   |cells _ _ _=>simp[Q.run]at D
   |map ks H f=>
    dsimp only at D
    unfold kF at Bs
    obtain⟨es,i,O,_,U,V,_⟩:=Bs
    cases K:na ek ks H (st.rho k') z N with
    |none=>simp[K,Ev.val,Q.run]at D
    |some r=>
     simp[K,Ev.val,Q.run]at D;obtain⟨rfl,rfl⟩:=D
     exact J _ es i ks H _ F.2 (.inr ⟨_,rfl,O⟩) U V K
  ·simp[Q.run]at D
 ·simp[Q.run]at D
omit kD h
theorem PList.set{ts:List T}{r:List Value}(i:Nat){t:T}{cv:Value}(h:PList w M ts r)(D:PRel w M t cv):PList w M (ts.set i t) (r.set i cv):=by
 induction ts generalizing r i with
 |nil=>grind [PList]
 |cons x xs ih=>
  simp only[PList]at h
  obtain⟨u,us,rfl,F,H⟩:=h
  cases i with
  |zero=>grind [PList]
  |succ i=>grind [PList]
theorem vW{c:CK}{x y:T}{r D:Value}(hx:fy β st.gens w M x r)(i:fy β st.gens w M y D)(h:lu c x y=some true)(n:Nat):Instr.sameBits n D r=true:=by
 unfold lu at h
 split at h
 ·simp at h;subst h;rw[hx.bool,i.bool];simp[Instr.sameBits]
 ·split at h
  ·rename_i e;subst e;simp at h;subst h;rw[hx.int,i.int];simp[Instr.sameBits]
  ·cases h
 ·simp at h;subst h
  obtain⟨F,H,I⟩:=hx.str
  obtain⟨J,K,N⟩:=i.str
  rw[H,K]
  have:(J==F)=true:=by
   rw[beq_toListBytes,←mw,←kh,←kh,I,N];simp
  grind [Instr.sameBits]
 ·cases h
theorem uq: ∀{ks:List CK} {xs i:List T} {r D:List Value},gO β st.gens w M xs r→gO β st.gens w M i D→jx ks xs i=some true→ ∀n,r.length=D.length∧((D.zip r).all fun p=>Instr.sameBits n p.1 p.2)=true
 | [],xs,i,r,D,hx,F,h,n=>by
   cases xs <;> cases i <;> simp[jx]at h
   simp_all[gO]
 |k::ks,xs,i,r,D,hx,F,h,n=>by
  cases xs with
  |nil=>grind [jx]
  |cons x xs=>
   cases i with
   |nil=>simp[jx]at h
   |cons y i=>
    simp only[gO]at hx F
    obtain⟨u,us,rfl,H,I⟩:=hx
    obtain⟨N,J,rfl,GO,NU⟩:=F
    simp only[jx]at h
    cases hc:lu k x y with
    |none=>simp[hc]at h
    |some b=>
     cases b with
     |false=>simp[hc]at h
     |true=>
      simp only[hc]at h
      obtain⟨O,K⟩:=uq I NU h n
      simp only[List.length_cons,List.zip_cons_cons,List.all_cons,Bool.and_eq_true]
      exact⟨by omega,vW H GO hc n,K⟩
theorem GP{ek:EK}{x y:T}{r D:Value}(F:(∃c,ek= .one c)∨ ∃ks,ek= .flat ks)(hx:fy β st.gens w M x r)(i:fy β st.gens w M y D)(h:vD ek x y=some true)(n:Nat):Instr.sameBits (n+1) D r=true:=by
 rcases F with⟨c,rfl⟩|⟨ks,rfl⟩
 ·exact vW hx i h _
 ·unfold vD at h
  split at h <;> simp_all
  rename_i xs J
  simp only[fy]at hx i
  obtain⟨K,rfl,H,_⟩:=hx
  obtain⟨N,rfl,I,_⟩:=i
  obtain⟨O,U⟩:=uq H I h n
  simp_all[Instr.sameBits,Bool.and_eq_true]
theorem Jv{ek:EK}{k:T}: ∀{ks:List T} {i:Nat},mK ek k ks=some (some i)→ ∃x,ks[i]? =some x∧vD ek k x=some true
 | [],i,h=>by simp[mK]at h
 |x::xs,i,h=>by
  simp only[mK]at h
  split at h
  ·grind
  ·simp only[Option.map_eq_some_iff]at h
   obtain⟨r,F,D⟩:=h
   cases r with
   |none=>simp at D
   |some j=>
    simp at D;subst D
    simp_all[Jv]
  ·cases h
theorem AZ{c:CK}{x y:T}{F H:Value}(hx:fy β st.gens w M x F)(i:fy β st.gens w M y H)(h:lu c x y=some true):F=H:=by
 unfold lu at h
 split at h
 ·simp at h;subst h;rw[hx.bool,i.bool]
 ·split at h
  ·rename_i e;subst e;simp at h;subst h;rw[hx.int,i.int]
  ·cases h
 ·simp at h;subst h
  obtain⟨r,I,J⟩:=hx.str
  obtain⟨D,K,N⟩:=i.str
  rw[I,K]
  have O:bytesN r=bytesN D:=J.trans N.symm
  have U:r.data.toList=D.data.toList:=(List.map_inj_right (f:=UInt8.toNat) (fun _ _ h=>UInt8.toNat_inj.1 h)).1 O
  have V:r=D:=ByteArray.ext (Array.toList_inj.1 U)
  rw[V]
 ·cases h
theorem xY: ∀{ks:List CK} {xs i:List T} {r D:List Value},gO β st.gens w M xs r→gO β st.gens w M i D→jx ks xs i=some true→r=D
 | [],xs,i,r,D,hx,F,h=>by
   grind [jx,gO]
 |k::ks,xs,i,r,D,hx,F,h=>by
  cases xs with
  |nil=>grind [jx]
  |cons x xs=>
   cases i with
   |nil=>simp[jx]at h
   |cons y i=>
    simp only[gO]at hx F
    obtain⟨u,us,rfl,H,I⟩:=hx
    obtain⟨K,J,rfl,GO,NU⟩:=F
    simp only[jx]at h
    cases hc:lu k x y with
    |none=>simp[hc]at h
    |some b=>
     cases b with
     |false=>simp[hc]at h
     |true=>
      simp only[hc]at h
      rw[AZ H GO hc,xY I NU h]
theorem Ut{ek:EK}{x y:T}{r D:Value}(F:(∃c,ek= .one c)∨ ∃ks,ek= .flat ks)(hx:fy β st.gens w M x r)(i:fy β st.gens w M y D)(h:vD ek x y=some true):r=D:=by
 rcases F with⟨c,rfl⟩|⟨ks,rfl⟩
 ·exact AZ hx i h
 ·unfold vD at h
  split at h <;> simp_all
  rename_i xs J
  simp only[fy]at hx i
  obtain⟨K,rfl,H,_⟩:=hx
  obtain⟨N,rfl,I,_⟩:=i
  have:=xY H I h
  simp_all
theorem xZ{c:CK}{x y:T}{v:Value}(hx:fy β st.gens w M x v)(i:fy β st.gens w M y v)(h:lu c x y=some false):False:=by
 unfold lu at h
 split at h
 ·have e:=hx.bool;rw[i.bool]at e;cases e;simp at h
 ·split at h
  ·rename_i e;subst e
   have e:=hx.int;rw[i.int]at e;cases e;simp at h
  ·cases h
 ·obtain⟨r,D,F⟩:=hx.str
  obtain⟨H,I,J⟩:=i.str
  grind
 ·cases h
theorem vX: ∀{ks:List CK} {xs i:List T} {v:List Value},gO β st.gens w M xs v→gO β st.gens w M i v→jx ks xs i=some false→False
 | [],xs,i,v,hx,r,h=>by
   grind [jx]
 |k::ks,xs,i,v,hx,r,h=>by
  cases xs with
  |nil=>grind [jx]
  |cons x xs=>
   cases i with
   |nil=>simp[jx]at h
   |cons y i=>
    simp only[gO]at hx r
    obtain⟨u,us,rfl,D,F⟩:=hx
    obtain⟨I,H,e,GO,NU⟩:=r
    cases e
    simp only[jx]at h
    cases hc:lu k x y with
    |none=>simp[hc]at h
    |some b=>
     cases b with
     |false=>exact xZ D GO hc
     |true=>
      simp only[hc]at h
      exact vX F NU h
theorem Qs{ek:EK}{x y:T}{v:Value}(r:(∃c,ek= .one c)∨ ∃ks,ek= .flat ks)(hx:fy β st.gens w M x v)(i:fy β st.gens w M y v)(h:vD ek x y=some false):False:=by
 rcases r with⟨c,rfl⟩|⟨ks,rfl⟩
 ·exact xZ hx i h
 ·unfold vD at h
  split at h <;> simp_all
  rename_i xs H
  simp only[fy]at hx i
  obtain⟨I,rfl,D,_⟩:=hx
  obtain⟨J,e,F,_⟩:=i
  cases e
  exact vX D F h
theorem C9{ek:EK}{k:T}: ∀{ks:List T},mK ek k ks=some none→ ∀x∈ks,vD ek k x=some false
 | [],h,x,hx=>by simp at hx
 |y::H,h,x,hx=>by
  simp only[mK]at h
  split at h
  ·simp at h
  ·rename_i i
   simp only[Option.map_eq_some_iff]at h
   obtain⟨r,D,F⟩:=h
   cases r with
   |some j=>simp at F
   |none=>
    rcases List.mem_cons.1 hx with rfl|hx
    ·exact i
    ·exact C9 D x hx
  ·cases h
theorem PList.getV{w:World}{M:ic}: ∀{ts:List T} {i:List Value},PList w M ts i→ ∀{j:Nat} {v:Value},i[j]? =some v→ ∃t,ts[j]? =some t∧PRel w M t v
 | [],i,h,j,v,r=>by grind [PList]
 |x::xs,i,h,j,v,r=>by
  simp only[PList]at h
  obtain⟨u,us,rfl,I,D⟩:=h
  cases j with
  |zero=>grind
  |succ j=>obtain⟨t,F,H⟩:=PList.getV D (j:=j) (v:=v) (by simpa using r);exact⟨t,by simpa using F,H⟩
theorem aeK(h:iH B st w β M){sp:Sp}{k g:Nat}{ks vs:List T}(N:st.get sp k=⟨g,.map ks vs false⟩)(Jw:Array MapEntry)(D:Nat)(O:MapKept.Stamped Jw D)(i K:List T)(hk:PList w M i (Jw.toList.map (·.key)))(hv:PList w M K (Jw.toList.map (·.val))):
  iH B (st.up (sp,k,⟨g,.map i K false⟩)) (setBlock w (β sp k g).blk (.map Jw D)) β M∧Tr st w β M (st.up (sp,k,⟨g,.map i K false⟩)) (setBlock w (β sp k g).blk (.map Jw D)) β M:=by
 have U:st.gens sp k=g:=by show(st.get sp k).g=g;rw[N]
 have F:live (st.get sp k):=by rw[N];trivial
 have V:=h.obj sp k
 rw[N]at V
 unfold kF at V
 obtain⟨es,W,X,_,h2,h3,Y⟩:=V
 dsimp only at X Y
 have ZY:=qU X
 have r:ku w M (setBlock w (β sp k g).blk (.map Jw D)) M:=by
  refine⟨fun b x u Z H=> ?_,fun b es cl Z H=> ?_,fun _ _ _ h=>h⟩
  ·by_cases I:b=(β sp k g).blk
   ·grind
   ·rw[nM (w:=w) (by rw[kg,if_neg (fun e=>I e.1)])];exact Z
  ·by_cases I:b=(β sp k g).blk
   ·simp_all
   ·grind [kg]
 have J:=NH (M':=M) h sp k g (.map i K false) F (Nat.le_of_eq U) (.map Jw D) (fun _ _ H=>H) (fun _ _ _ H=>H) (by rw[U];exact r) (h.base F)
 rw[U,rY]at J
 refine J ?_
 exact⟨Jw,D,by rw[kg,if_pos ⟨rfl,ZY⟩],O,PList.mono r _ _ hk,PList.mono r _ _ hv,Y⟩
include kD h
theorem aqG{d:Nat}{t kt et:TypeId}{m k x:Operand}{m' k' Y:im}{ek:EK}(ho:o.op= .mapUpdate t m k x)(hm:lE m=some m')(hk:lE k=some k')(hx:lE x=some Y)(ht:P.underlying t=some (.map kt et))(H:keyOf P kt=some ek)
  (r:(iX d st.rho (.mu ek m' k' Y)).run st.get st.sh.length=some (.val v ups)):kP P B st a w β M o v ups:=by
 have vm:=kD m m' hm
 have vk:=kD k k' hk
 have vx:=kD x Y hx
 simp only[iX]at r
 split at r
 ·rename_i sp kk g e
  rw[e]at vm;simp only[fy]at vm
  simp only[Q.run]at r
  split at r
  ·rename_i Z
   simp at Z
   obtain⟨Z,NQ⟩:=Z
   generalize he:st.get sp kk=en at*
   obtain⟨ge,ob⟩:=en
   dsimp only at Z;subst Z
   split at r
   ·rename_i ks J heq
    dsimp only at heq;subst heq
    simp only[Q.run_bind]at r
    cases hz:(fz false iq (st.rho Y)).run st.get st.sh.length with
    |none=>simp[hz]at r
    |some p=>
     obtain⟨t',us⟩:=p
     simp only[hz,Option.bind_some]at r
     split at r
     ·rename_i q N
      split at r
      ·simp[Q.run]at r
      ·rename_i hh
       simp at hh
       simp[Q.run]at r;obtain⟨rfl,rfl⟩:=r
       obtain⟨M',q1,q2,q3,q4,q5⟩:=AR _ st iq (st.rho Y) B st w β M _ t' us _ (Fz.refl st) h vx hz
       have q4':PRel w M' t' (a.eval x):=q4
       have NT:(st.ups us).get sp kk=⟨ge,.map ks J false⟩:=by rw[pW st us sp kk hh];exact he
       have Bs:=q1.obj sp kk
       rw[NT]at Bs
       unfold kF at Bs
       obtain⟨es,clock,e2,ni,X,e4,_⟩:=Bs
       dsimp only at e2
       have Y2:fy β st.gens w M' (st.rho k') (a.eval k):=fy.mono (j6 q3) (fun _ _ _ _=>rfl) (fun _ _=>Nat.le_refl _) _ _ vk
       have C4:(Instr.checkKey false 10000 kt (a.eval k)).run P w= .ok () w:=AW (P:=P) H Y2 NQ 9998 false
       obtain⟨_,qW⟩:=GK H
       have kp:PRel w M' (st.rho k') (a.eval k):=by
        generalize st.rho k'=tk at*
        cases tk <;> rcases qW with⟨c,rfl⟩|⟨cs,rfl⟩ <;> (try (cases c)) <;> simp[isKey,GD]at NQ
        all_goals first
         |(simp only[fy]at Y2;simp only[PRel];exact Y2;done)
         |skip
        rename_i xs
        simp only[fy]at Y2
        obtain⟨arr,e5,l5,s5⟩:=Y2
        simp only[PRel]
        refine⟨arr,e5, ?_,s5⟩
        have: ∀(cs:List CK) (xs:List T) (J:List Value),pV cs xs=true→gO β st.gens w M' xs J→PList w M' xs J:=by
         intro cs
         induction cs with
         |nil=>intro xs J hc hv;cases xs <;> simp[pV]at hc;simpa only[gO,PList]using hv
         |cons c cs ih=>
          intro xs J hc hv
          cases xs with
          |nil=>simp[pV]at hc
          |cons x xs=>
           simp only[pV,Bool.and_eq_true]at hc
           simp only[gO]at hv;simp only[PList]
           obtain⟨u,us,rfl,w1,w2⟩:=hv
           refine⟨u,us,rfl, ?_,ih xs us hc.2 w2⟩
           cases c <;> cases x <;> simp[GD]at hc <;> simp only[fy]at w1 <;> simp only[PRel] <;> exact w1
        exact this _ _ _ NQ l5
       have run: ∀(D:Option (Nat×Value)) (Jw:Array MapEntry) (qp:Nat),(Instr.findKey kt (a.eval k) es.toList).run P w= .ok D w→
         (match D with
           |some (i,_)=>do
            let key ←Instr.keyThatStays (((es[i]?).map (fun e:MapEntry=>e.key)).getD (a.eval k)) (a.eval k)
            setObj (β sp kk ge).blk (.map (es.modify i fun e=>{e with key,val:=a.eval x}) clock)
           |none=>setObj (β sp kk ge).blk (.map (es.push {key:=a.eval k,val:=a.eval x,born:=clock}) (clock+1))).run P w= .ok () (setBlock w (β sp kk ge).blk (.map Jw qp))→
         (execOp a.eval o).run P w= .ok .skip (setBlock w (β sp kk ge).blk (.map Jw qp)):=by
        intro D Jw qp EN Jx
        have:(Instr.mapUpdate t (.map (some (β sp kk ge).blk)) (a.eval k) (a.eval x)).run P w= .ok () (setBlock w (β sp kk ge).blk (.map Jw qp)):=by
         unfold Instr.mapUpdate
         simp only[Sem.run_bind,run_underlying ht,Result.andThen_ok]
         have Bv:(getObj (β sp kk ge).blk).run P w= .ok (.map es clock) w:=by simp[getObj,Sem.run,e2]
         simp only[Bv,Result.andThen_ok,Sem.run_bind,C4,EN]
         cases D with
         |none=>exact Jx
         |some p=>exact Jx
        simp[execOp,ho,vm.2,this]
       have Jx: ∀(Jw:Array MapEntry) (c':Nat),(setObj (β sp kk ge).blk (.map Jw c')).run P w= .ok () (setBlock w (β sp kk ge).blk (.map Jw c')):=by
        intro Jw c';simp[setObj,Sem.run,e2,setBlock]
       unfold qj at N
       split at N
       ·rename_i i hf
        simp at N;subst N
        obtain⟨D,r1,e,K,r3⟩:=sV (P:=P) H Y2 es.toList ks _ X hf
        obtain⟨kx,O,F⟩:=Jv hf
        obtain⟨kcv,I,kc2⟩:=X.get O
        rw[List.getElem?_map,K]at I
        simp at I
        have Uu:=GP (β:=β) (st:=st) qW Y2 (PRel.toV β st.gens _ _ kc2) F 9999
        have hei:es[i]? =some e:=by simpa using K
        simp only[Nat.zero_add]at r3
        have hkt:(Instr.keyThatStays (((es[i]?).map (fun e:MapEntry=>e.key)).getD (a.eval k)) (a.eval k)).run P w= .ok (a.eval k) w:=by
         rw[hei];simp only[Option.map_some,Option.getD_some,I]
         unfold Instr.keyThatStays
         rw[if_pos Uu];rfl
        obtain⟨U,V⟩:=aeK q1 NT (es.modify i fun e=>{e with key:=a.eval k,val:=a.eval x}) clock (MapKept.stamped_modify ni i _ (fun _ _=>rfl) (fun e' _ Y0=>by
         have hh:e'=e:=by rw[hei]at Y0;exact(Option.some.inj Y0).symm
         subst hh
         exact(Ut qW Y2 (PRel.toV β st.gens _ _ kc2) F).trans I.symm)) (ks.set i (st.rho k')) (J.set i t') (by
         have:=PList.set i X kp
         have e5:(es.modify i fun e=>{e with key:=a.eval k,val:=a.eval x}).toList.map (·.key)=(es.toList.map (·.key)).set i (a.eval k):=by
          apply List.ext_getElem?;intro j
          rw[Array.toList_modify,List.getElem?_map,List.getElem?_modify,List.getElem?_set,List.getElem?_map]
          by_cases W:i=j
          ·subst W;rw[K];simp;exact(List.getElem?_eq_some_iff.1 K).1
          ·simp[W]
         rw[e5];exact this) (by
         have:=PList.set i e4 q4'
         have e5:(es.modify i fun e=>{e with key:=a.eval k,val:=a.eval x}).toList.map (·.val)=(es.toList.map (·.val)).set i (a.eval x):=by
          apply List.ext_getElem?;intro j
          rw[Array.toList_modify,List.getElem?_map,List.getElem?_modify,List.getElem?_set,List.getElem?_map]
          by_cases W:i=j
          ·subst W;rw[K];simp;exact(List.getElem?_eq_some_iff.1 K).1
          ·simp[W]
         rw[e5];exact this)
        refine⟨.skip,undef,_,β,M',run D _ clock r1 ?_,.inr ⟨rfl,rfl⟩,by rw[ky];exact U,by rw[ky];exact(Tr.fz q2 q3).trans V (Nat.le_refl _),by rw[kM];exact Nat.le_refl _,by simp[fy,iG,undef,gO]⟩
        subst r3
        simp only[Sem.run_bind,hkt,Result.andThen_ok]
        exact Jx _ _
       ·rename_i hf
        simp at N;subst N
        obtain⟨D,r1,K⟩:=sV (P:=P) H Y2 es.toList ks _ X hf
        have:D=none:=K
        subst this
        obtain⟨U,V⟩:=aeK q1 NT (es.push {key:=a.eval k,val:=a.eval x,born:=clock}) (clock+1) (MapKept.stamped_push ni (fun y hy Y0=>by
         obtain⟨j,W⟩:=List.getElem?_of_mem hy
         obtain⟨kx,O,F⟩:=X.getV (j:=j) (v:=y.key) (by rw[List.getElem?_map,W];rfl)
         rw[Y0]at F
         exact Qs qW Y2 (PRel.toV β st.gens _ _ F) (C9 hf _ (List.mem_of_getElem? O)))) (ks++ [st.rho k']) (J++ [t']) (by
         simp only[Array.toList_push,List.map_append,List.map_cons,List.map_nil]
         exact PList.append X (by simp only[PList];exact⟨_,_,rfl,kp,rfl⟩)) (by
         simp only[Array.toList_push,List.map_append,List.map_cons,List.map_nil]
         exact PList.append e4 (by simp only[PList];exact⟨_,_,rfl,q4',rfl⟩))
        exact⟨.skip,undef,_,β,M',run none _ (clock+1) r1 (Jx _ _),.inr ⟨rfl,rfl⟩,by rw[ky];exact U,by rw[ky];exact(Tr.fz q2 q3).trans V (Nat.le_refl _),by rw[kM];exact Nat.le_refl _,by simp[fy,iG,undef,gO]⟩
       ·cases N
     ·simp[Q.run]at r
   ·simp[Q.run]at r
  ·simp[Q.run]at r
 ·simp[Q.run]at r
end
end Go.Ev
namespace Go.Ev
open Go
theorem FF(i:Nat): ∀(r c:Nat),c≤i+(i+768)/4→Builtin.growBy i r c≤i+(i+768)/4
 |0,c,h=>by simpa[Builtin.growBy]using h
 |r+1,c,h=>by
  simp only[Builtin.growBy]
  split
  ·exact h
  ·exact FF i r _ (by omega)
theorem ZZ(GQ Y1:Nat)(h:Y1<GQ):Builtin.nextslicecap GQ Y1≤2*GQ+192:=by
 grind [Builtin.nextslicecap,FF]
theorem Qt{GQ Y1 bytes:Nat}(h:Y1<GQ)(i:GQ*bytes≤1099511627776)(r:bytes≠0):Builtin.nextslicecap GQ Y1*bytes≤281474976710656:=by
 have D:=Nat.mul_le_mul_right bytes (ZZ GQ Y1 h)
 have F:bytes≤GQ*bytes:=Nat.le_mul_of_pos_left bytes (by omega)
 grind
section
variable{P:Program}{B:lK}{st:St}{a:Act}{w:World}{β:iA}{M:ic}{o:Oper}{v:T}{ups:List Up}
theorem EO(h:iH B st w β M){sz nx n:Nat}{x:T}{cx:Value}{xs:List T}(I:fy β st.gens w M x cx)(i:(jm sz x).run st.get nx=some (n,xs)):
  ∃news:List Value,(∀w':World,w'.heap=w.heap→(Builtin.lenOf cx).run P w'= .ok n w'∧(Builtin.firstCells sz n cx).run P w'= .ok news.toArray w')∧PList w M xs news∧xs.all single=true∧xs.length=n*sz:=by
 unfold jm at i
 split at i
 ·simp[Q.run]at i;obtain⟨rfl,rfl⟩:=i
  simp_all[fy,Builtin.lenOf,Builtin.firstCells,PList]
 ·rename_i cs len ex
  split at i
  ·rename_i K
   simp[Q.run]at i;obtain⟨rfl,rfl⟩:=i
   simp only[fy,PRel]at I
   obtain⟨N,off,O,sp,rfl,U,Z,h5,V⟩:=I
   obtain⟨W,J,e2,e3,e4⟩:=PCells.load (P:=P) V
   refine⟨W,fun w' hw=>⟨by simp[Builtin.lenOf], ?_⟩,e3,e4,K⟩
   have:=run_loadCells_list (P:=P) w' ⟨N,off,sp⟩ W (fun j u D=>by
    rcases h5 with h5|h5
    ·grind [World.cell?,kG]
    ·exfalso
     have hz:len=0:=by omega
     have h0:W= []:=List.length_eq_zero_iff.1 (by rw[J,K,hz,Nat.zero_mul])
     subst h0;simp at D)
   rw[J,K]at this
   simp[Builtin.firstCells,this]
  ·simp[Q.run]at i
 ·rename_i sp k g off len F
  split at i
  ·rename_i X
   subst X
   simp only[Q.run]at i
   split at i
   ·rename_i hg
    have Bs:=h.obj sp k
    generalize he:st.get sp k=en at*
    obtain⟨ge,ob⟩:=en
    dsimp only at hg;subst hg
    cases ob with
    |none=>simp[Q.run]at i
    |map _ _ _=>simp[Q.run]at i
    |cells cs wm bx=>
     cases bx with
     |true=>simp[Q.run]at i
     |false=>
      dsimp only at i
      split at i
      ·rename_i hle
       simp[Q.run]at i;obtain⟨rfl,rfl⟩:=i
       unfold kF at Bs
       obtain⟨c,el,fz,U,Z,V,h4,h5,h6,h7,h8⟩:=Bs
       dsimp only at U Z V h5
       simp only[fy]at I
       obtain⟨q1,O,rfl,q2,q3⟩:=I
       have Uh:=PList.take (len*F) (PList.drop off h5)
       rw[List.drop_take,List.drop_drop,List.take_take]at Uh
       have Y:min (len*F) (cs.length-off)=len*F:=by omega
       rw[Y]at Uh
       have r:((cs.drop off).take (len*F)).length=len*F:=by simp;omega
       refine⟨(c.toList.drop ((β sp k ge).off+off)).take (len*F),fun w' hw=>⟨by simp[Builtin.lenOf], ?_⟩,Uh,mX h7 _ _,r⟩
       have LP:=PList.length _ _ Uh
       rw[r]at LP
       have:=run_loadCells_list (P:=P) w' ⟨(β sp k ge).blk,(β sp k ge).off+off,none⟩ ((c.toList.drop ((β sp k ge).off+off)).take (len*F)) (fun j u D=>by
        rw[kG]
        rw[List.getElem?_take]at D
        split at D
        ·rw[List.getElem?_drop]at D
         unfold World.cell?;rw[hw,U];simpa using D
        ·cases D)
       rw[←LP]at this
       simp[Builtin.firstCells,this]
      ·simp[Q.run]at i
   ·simp[Q.run]at i
  ·simp[Q.run]at i
 ·rename_i l
  split at i
  ·rename_i X
   subst X
   simp[Q.run]at i;obtain⟨rfl,rfl⟩:=i
   obtain⟨H,rfl,rfl⟩:=I.str
   refine⟨H.data.toList.map fun b=> .int .u8 b.toNat,fun w' _=>⟨by simp[Builtin.lenOf,mf], ?_⟩, ?_, ?_,by simp⟩
   ·have J:(H.extract 0 H.size).data=H.data:=by
     apply Array.ext'
     rw[ByteArray.data_extract,Array.toList_extract,List.extract_eq_take_drop]
     rw[List.drop_zero]
     exact List.take_of_length_le (by show H.data.toList.length≤H.data.size-0;simp)
    simp only[Builtin.firstCells,mf,J,Sem.run_pure]
    congr 1
    apply Array.ext';simp
   ·unfold bytesN
    rw[List.map_map]
    generalize H.data.toList=l
    induction l with
    |nil=>simp[PList]
    |cons b l ih=>simp only[List.map_cons,PList];exact⟨_,_,rfl,by simp[PRel],ih⟩
   ·rw[List.all_eq_true];intro x hx;simp at hx;obtain⟨_,_,rfl⟩:=hx;rfl
  ·simp[Q.run]at i
 ·simp[Q.run]at i
theorem Jy{t u ty e:TypeId}{D:TypeDesc}{i:TypeInfo}{z:Value}(K:P.underlying t=some (.slice e))(N:P.underlying u=some D)(F:D= .string∨ ∃J,D= .slice J)(hi:P.info? e=some i)(O:i.zero=some z)
  {base:Option Addr} {kJ mO n:Nat} {cx:Value} {yb news:List Value} (U:(Builtin.lenOf cx).run P w= .ok n w) (FG:(Builtin.firstCells i.size n cx).run P w.drew= .ok news.toArray w.drew) (r:(Builtin.firstCells i.size kJ (.slice base kJ mO)).run P w.drew= .ok yb.toArray w.drew)
  (V:mO<kJ+n) (W:(kJ+n)*i.bytes≤1099511627776) (X:i.bytes≠0):
  (Builtin.append_ #[t,u] ty #[.slice base kJ mO,cx]).run P w= .ok (.slice (some ⟨w.heap.size,0,none⟩) (kJ+n) (grownCap w (kJ+n) mO e))
     (w.drew.alloc (.cells (yb.toArray++news.toArray++Builtin.zeroCells z.cells (grownCap w (kJ+n) mO e-(kJ+n))) e)):=by
 have H: ¬(kJ+n≤mO):=by omega
 have Y:kJ+n≤(kJ+n)*i.bytes:=Nat.le_mul_of_pos_right _ (by omega)
 have Bw: ¬(9223372036854775807<((kJ:Int)+(n:Int))):=by omega
 have I: ¬(281474976710656<Builtin.nextslicecap (kJ+n) mO*i.bytes):=by have:=Qt V W X;omega
 rcases F with rfl|⟨J,rfl⟩ <;>
 ·simp[Builtin.append_,run_underlying K,run_underlying N,sizeOf,typeInfo,zeroValue,hi,O,U,H,Bw,I,Question.forced,FG,r,newRow,grownCap]
  grind
theorem ur{t u ty e:TypeId}{D:TypeDesc}{i:TypeInfo}(H:P.underlying t=some (.slice e))(I:P.underlying u=some D)(F:D= .string∨ ∃J,D= .slice J)(hi:P.info? e=some i)
  {base:Option Addr} {kJ mO n:Nat} {cx:Value} {news:List Value} {w':World} (K:(Builtin.lenOf cx).run P w= .ok n w) (FG:(Builtin.firstCells i.size n cx).run P w= .ok news.toArray w)
  (N:kJ+n≤mO) (r:match base with|some ad=>(storeCells (ad.add (kJ*i.size)) news).run P w= .ok () w'|none=>w'=w):
  (Builtin.append_ #[t,u] ty #[.slice base kJ mO,cx]).run P w= .ok (.slice base (kJ+n) mO) w':=by
 rcases F with rfl|⟨J,rfl⟩ <;>
 ·cases base with
  |none=>
   dsimp only at r;subst r
   simp[Builtin.append_,run_underlying H,run_underlying I,sizeOf,typeInfo,hi,K,N,FG]
  |some ad=>
   dsimp only at r
   simp[Builtin.append_,run_underlying H,run_underlying I,sizeOf,typeInfo,hi,K,N,FG,r]
theorem Z0{bx:Bool}(h:iH B st w β M)(el:TypeId)(c:Array Value)(cs:List T)(wm:Nat)(sp:Sp)(k g:Nat)(r:st.gens sp k<g)
  (D:PList w M cs (c.toList.take cs.length)) (hs:cs.all single=true) (i:cs.length≤c.size) (Jt:wm≤cs.length):
  iH B (st.up (sp,k,⟨g,.cells cs wm bx⟩)) (w.alloc (.cells c el)) (mW β sp k g ⟨w.heap.size,0,c.size⟩) (fun b x=>M b x∨b=w.heap.size)∧
  Tr st w β M (st.up (sp,k,⟨g,.cells cs wm bx⟩)) (w.alloc (.cells c el)) (mW β sp k g ⟨w.heap.size,0,c.size⟩) (fun b x=>M b x∨b=w.heap.size):=by
 refine Ue h sp k g r (.cells c el) c.size (.cells cs wm bx) ?_
 unfold kF
 simp only[jr]
 refine⟨c,el,(0,0),by rw[heap_alloc,if_pos rfl],by omega,i,rfl, ?_,fun j _ _=>Or.inr (by trivial),hs,Jt⟩
 simp only[List.drop_zero]
 exact pc.ofP (PList.mono (sR w M _) _ _ D)
variable(kD:pd β st.gens w M st.rho a.eval)(h:iH B st w β M)
include kD h
theorem agZ{d:Nat}{sh nm:Bool}{c:Call}{t u e:TypeId}{ud:TypeDesc}{i:TypeInfo}{z:Value}{s x:Operand}{s' x':im}(ho:o.op= .call c)(hb:c.callee= .builtin .append)(yc:c.argTypes.toList= [t,u])(has:c.args.toList= [s,x])
  (ht:P.underlying t=some (.slice e)) (H:P.underlying u=some ud) (W:ud= .string∨ ∃e',ud= .slice e') (hi:P.info? e=some i) (hz:i.zero=some z) (oR:i.size=z.cells.size) (h0:i.size≠0) (hby:i.bytes≠0) (hs:lE s=some s') (hx:lE x=some x')
  (r:(iX d st.rho (.app i.size i.bytes s' x' sh nm)).run st.get st.sh.length=some (.val v ups)):kP P B st a w β M o v ups:=by
 have V:=kD s s' hs
 have vx:=kD x x' hx
 have zh:c.argTypes= #[t,u]:=by apply Array.ext';simp[yc]
 have K: ∀cv w',(Builtin.append_ #[t,u] o.type #[a.eval s,a.eval x]).run P w= .ok cv w'→(execOp a.eval o).run P w= .ok (.value cv) w':=by
  intro cv w' hr
  rw[kI ho hb,ZR has,zh]
  simp[builtin,hr]
 simp only[iX,oh,Q.run_bind]at r
 cases mF:(jm i.size (st.rho x')).run st.get st.sh.length with
 |none=>grind
 |some p=>
  obtain⟨n,xs⟩:=p
  simp only[mF,Option.bind_some]at r
  obtain⟨news,Z,n1,n2,n3⟩:=EO (P:=P) h vx mF
  have Jz:news.length=n*i.size:=by rw[←PList.length _ _ n1,n3]
  by_cases Y3:n=0
  ·rw[if_pos Y3]at r
   subst Y3
   have FG:news= []:=by apply List.eq_nil_of_length_eq_zero;simpa using Jz
   subst FG
   have same: ∀base kJ mO,a.eval s= .slice base kJ mO→kJ≤mO→kP P B st a w β M o (st.rho s') []:=by
    intro base kJ mO es hle
    refine iB h (cv:= .slice base kJ mO) ?_ (by rw[←es];exact V)
    have:=ur (P:=P) (w:=w) (w':=w) (t:=t) (u:=u) (ty:=o.type) (base:=base) (kJ:=kJ) (mO:=mO) (cx:=a.eval x) (n:=0) (news:= []) ht H W hi (Z w rfl).1 (Z w rfl).2 (by omega) (by cases base <;> simp[storeCells])
    exact K _ _ (by rw[es];exact this)
   grind [Q.run,fy,PRel]
  ·rw[if_neg Y3]at r
   have hz0:z.cells.size≠0:=by omega
   have N: ∀(bx:Bool) (base:Option Addr) (kJ mO:Nat) (yb:List Value) (X:List T) (sp:Sp) (k g wm:Nat),a.eval s= .slice base kJ mO→mO<kJ+n→(kJ+n)*i.bytes≤1099511627776→PList w M X yb→X.all single=true→X.length=kJ*i.size→
     (Builtin.firstCells i.size kJ (.slice base kJ mO)).run P w.drew= .ok yb.toArray w.drew→st.gens sp k<g→wm≤X.length→kP P B st a w β M o (.isl sp k g 0 (kJ+n) i.size) [(sp,k,⟨g,.cells (X++xs) wm bx⟩)]:=by
    intro bx base kJ mO yb X sp k g wm es oa I ho1 ho2 ho3 hfc hg Jt
    have hr:=Jy (P:=P) (w:=w) (t:=t) (u:=u) (ty:=o.type) (base:=base) (kJ:=kJ) (mO:=mO) (cx:=a.eval x) (n:=n) (yb:=yb) (news:=news) ht H W hi hz (Z w rfl).1 (Z w.drew rfl).2 hfc oa I hby
    obtain⟨hd1,hd2⟩:=GI h (w.drawn+1)
    have hol:yb.length=kJ*i.size:=by rw[←PList.length _ _ ho1,ho3]
    have C2:=grownCap_ge w (kJ+n) mO e
    have hcs:(yb.toArray++news.toArray++Builtin.zeroCells z.cells (grownCap w (kJ+n) mO e-(kJ+n))).size=grownCap w (kJ+n) mO e*i.size:=by
     rw[Array.size_append,Array.size_append,size_zeroCells]
     simp only[List.size_toArray,hol,Jz,←oR]
     rw[←Nat.add_mul,←Nat.add_mul];congr 1;omega
    have D:(X++xs).length=yb.length+news.length:=by simp[ho3,n3,hol,Jz]
    obtain⟨r1,r2⟩:=Z0 (bx:=bx) hd1 e (yb.toArray++news.toArray++Builtin.zeroCells z.cells (grownCap w (kJ+n) mO e-(kJ+n))) (X++xs) wm sp k g hg (by
     have:(yb.toArray++news.toArray++Builtin.zeroCells z.cells (grownCap w (kJ+n) mO e-(kJ+n))).toList.take (X++xs).length=yb++news:=by
      rw[D]
      simp only[Array.toList_append,List.toList_toArray]
      rw[List.take_append_of_le_length (by simp)]
      exact List.take_of_length_le (by simp)
     rw[this]
     exact PList.mono hd2.keep _ _ (PList.append ho1 n1)) (by simp only[List.all_append,Bool.and_eq_true];exact⟨ho2,n2⟩) (by
     rw[hcs,D,hol,Jz,←Nat.add_mul];exact Nat.mul_le_mul_right _ C2) (by simp;omega)
    refine⟨_,_,_,_,_,K _ _ (by rw[es];exact hr),.inl rfl,r1,hd2.trans r2 (Nat.le_refl _), ?_, ?_⟩
    ·show w.heap.size≤(w.heap.push _).size;simp
    ·simp only[fy]
     refine⟨by simp[St.ups,kY],grownCap w (kJ+n) mO e, ?_,C2, ?_⟩
     ·rw[jr]
     ·rw[jr,hcs];exact Nat.le_of_eq (Nat.zero_add _)
   split at r
   ·rename_i es
    rw[es]at V;simp only[fy]at V
    split at r
    ·rename_i I
     unfold roomy at I
     obtain⟨sp,k,g,rfl,rfl,hg,_⟩:=oD r
     have:=N (nm&& !sh) none 0 0 [] [] sp k g 0 V (by omega) (by simpa using I) (by simp[PList]) rfl (by simp) (by simp[Builtin.firstCells]) hg (Nat.zero_le _)
     simpa using this
    ·simp[Q.run]at r
   ·rename_i cs len es
    rw[es]at V;simp only[fy,PRel]at V
    obtain⟨blk,off,F,kj,e1,e2,e3,e5,e4⟩:=V
    have:=e3 trivial;subst this
    split at r
    ·rename_i I
     simp at I
     unfold roomy at I
     obtain⟨sp,k,g,rfl,rfl,hg,_⟩:=oD r
     obtain⟨ol,f1,f2,f3,f4⟩:=PCells.load (P:=P) e4
     refine N false _ _ _ ol cs sp k g 0 e1 (by omega) I.2 f3 f4 I.1 ?_ hg (Nat.zero_le _)
     have:=run_loadCells_list (P:=P) w.drew ⟨blk,off,kj⟩ ol (fun j u H=>by
      rcases e5 with e5|e5
      ·subst e5
       rw[kG];have:=f2 j u H;unfold World.cell? at this ⊢; exact this
      ·exfalso
       have h0:ol= []:=List.length_eq_zero_iff.1 (by rw[f1,I.1,e5,Nat.zero_mul])
       subst h0;simp at H)
     rw[f1,I.1]at this
     simp[Builtin.firstCells,this]
    ·simp[Q.run]at r
   ·rename_i sp k g off len sz es
    rw[es]at V;simp only[fy]at V
    obtain⟨q1,F,e1,e2,e3⟩:=V
    split at r
    ·rename_i I
     simp at I
     unfold roomy at I
     obtain⟨⟨rfl,rfl⟩,I⟩:=I
     simp only[Q.run]at r
     split at r
     ·rename_i hg
      have Bs:=h.obj sp k
      generalize he:st.get sp k=en at*
      obtain⟨ge,ob⟩:=en
      dsimp only at hg;subst hg
      cases ob with
      |none=>simp[Q.run]at r
      |map _ _ _=>simp[Q.run]at r
      |cells cs wm bx=>
       cases bx with
       |true=>simp[Q.run]at r
       |false=>
        dsimp only at r
        split at r
        ·rename_i D
         simp[Q.run]at r;obtain⟨rfl,rfl⟩:=r
         unfold kF at Bs
         obtain⟨J,el,fz,O,h2,h3,h4,h5,h6,h7,h8⟩:=Bs
         dsimp only at O h2 h3 h4 h5 h6
         subst h4
         have FH:st.gens sp k=ge:=by show(st.get sp k).g=ge;rw[he]
         by_cases LQ:len+n≤F
         ·have Uv:(len+n)*i.size≤F*i.size:=Nat.mul_le_mul_right _ LQ
          rw[Nat.add_mul]at Uv
          have Ur:=gO.one (PList.toV β st.gens _ _ n1) n2
          have Y:=run_storeCells_at P (β sp k ge).blk ((β sp k ge).off+len*i.size) el news 0 J w O (by omega) Ur
          rw[pG O]at Y
          simp only[Nat.add_zero]at Y
          rw[C8 _ _ _ (by simp;omega)]at Y
          have hr:=ur (P:=P) (w:=w) (t:=t) (u:=u) (ty:=o.type) (base:=some ⟨(β sp k ge).blk,(β sp k ge).off+0,none⟩) (kJ:=len) (mO:=F) (cx:=a.eval x) (n:=n) (news:=news) ht H W hi (Z w rfl).1 (Z w rfl).2 LQ (by
           dsimp only;rw[kG];simpa using Y)
          have U:=xX h he (ge+1) (Nat.le_succ _) O (len*i.size) news (cs++xs) (by omega) (by omega) (by simp;omega) (by simp[n3];omega) (by simp only[List.all_append,Bool.and_eq_true];exact⟨h7,n2⟩) (by
           show PList w M _ _
           have h5:PList w M cs _:=h5
           have:(splice (J.toList.drop (β sp k ge).off) (len*i.size) news).take (cs++xs).length=(J.toList.drop (β sp k ge).off).take cs.length++news:=by
            rw[←C8 _ _ _ (by simp;omega),D,List.take_append_of_le_length (by simp[n3,Jz];omega)]
            exact List.take_of_length_le (by simp[n3,Jz];omega)
           rw[this]
           exact PList.append h5 n1)
          refine⟨_,_,_,_,_,K _ _ (by rw[e1];exact hr),.inl rfl,U.1,U.2,by rw[kM];exact Nat.le_refl _, ?_⟩
          simp only[fy]
          refine⟨by simp[St.ups,kY],F,by rw[jr],LQ,by rw[jr];exact e3⟩
         ·have Uh:PList w M cs ((J.toList.drop (β sp k ge).off).take cs.length):=h5
          refine N false _ len F ((J.toList.drop (β sp k ge).off).take cs.length) cs sp k (ge+1) wm e1 (by omega) I Uh h7 D.symm ?_ (by rw[FH];omega) h8
          have LP:=PList.length _ _ Uh
          have:=run_loadCells_list (P:=P) w.drew ⟨(β sp k ge).blk,(β sp k ge).off+0,none⟩ ((J.toList.drop (β sp k ge).off).take cs.length) (fun j u H=>by
           rw[kG]
           rw[List.getElem?_take]at H
           split at H
           ·rw[List.getElem?_drop]at H
            unfold World.cell?
            show(match w.heap[(β sp k ge).blk]? with|some (.cells c _ _)=>if(none:Option Nat).isSome then none else c[(β sp k ge).off+0+j]? |_=>none)=some u
            rw[O];simpa using H
           ·cases H)
          rw[←LP]at this
          simp only[Builtin.firstCells]
          rw[D]
          exact this
        ·split at r
         ·rename_i Y4
          simp only[Bool.and_eq_true,decide_eq_true_eq]at Y4
          obtain⟨⟨⟨rfl,rfl⟩,D⟩,JA⟩:=Y4
          simp[Q.run]at r;obtain⟨rfl,rfl⟩:=r
          unfold kF at Bs
          obtain⟨J,el,fz,O,h2,h3,h4,h5,h6,h7,h8⟩:=Bs
          dsimp only at O h2 h3 h4 h5 h6
          subst h4
          have FH:st.gens sp k=ge:=by show(st.get sp k).g=ge;rw[he]
          have Uh:PList w M cs ((J.toList.drop (β sp k ge).off).take cs.length):=h5
          have h5t:PList w M (cs.take (len*i.size)) ((J.toList.drop (β sp k ge).off).take (len*i.size)):=by
           have:=PList.take (len*i.size) Uh
           rwa [List.take_take,Nat.min_eq_left (by omega)]at this
          have Ia:(cs.take (len*i.size)).length=len*i.size:=by rw[List.length_take];omega
          have yc:(cs.take (len*i.size)).all single=true:=List.all_eq_true.2 fun x hx=>List.all_eq_true.1 h7 x (List.mem_of_mem_take hx)
          by_cases LQ:len+n≤F
          ·have Uv:(len+n)*i.size≤F*i.size:=Nat.mul_le_mul_right _ LQ
           rw[Nat.add_mul]at Uv
           have Ur:=gO.one (PList.toV β st.gens _ _ n1) n2
           have Y:=run_storeCells_at P (β sp k ge).blk ((β sp k ge).off+len*i.size) el news 0 J w O (by omega) Ur
           rw[pG O]at Y
           simp only[Nat.add_zero]at Y
           rw[C8 _ _ _ (by simp;omega)]at Y
           have hr:=ur (P:=P) (w:=w) (t:=t) (u:=u) (ty:=o.type) (base:=some ⟨(β sp k ge).blk,(β sp k ge).off+0,none⟩) (kJ:=len) (mO:=F) (cx:=a.eval x) (n:=n) (news:=news) ht H W hi (Z w rfl).1 (Z w rfl).2 LQ (by
            dsimp only;rw[kG];simpa using Y)
           have U:=xX h he (ge+1) (Nat.le_succ _) O (len*i.size) news (cs.take (len*i.size)++xs) JA (by omega) (by rw[List.length_append,Ia];omega) (by rw[List.length_append,Ia,n3];omega) (by simp only[List.all_append,Bool.and_eq_true];exact⟨yc,n2⟩) (by
            show PList w M _ _
            have:(splice (J.toList.drop (β sp k ge).off) (len*i.size) news).take (cs.take (len*i.size)++xs).length=(J.toList.drop (β sp k ge).off).take (len*i.size)++news:=by
             have hl9:len*i.size+news.length≤(J.toList.drop (β sp k ge).off).length:=by simp;omega
             rw[←C8 _ _ _ (by simp;omega),List.length_append,Ia,n3,←Jz]
             rw[List.take_append_of_le_length (by simp;omega)]
             exact List.take_of_length_le (by simp;omega)
            rw[this]
            exact PList.append h5t n1)
           refine⟨_,_,_,_,_,K _ _ (by rw[e1];exact hr),.inl rfl,U.1,U.2,by rw[kM];exact Nat.le_refl _, ?_⟩
           simp only[fy]
           refine⟨by simp[St.ups,kY],F,by rw[jr],LQ,by rw[jr];exact e3⟩
          ·refine N false _ len F ((J.toList.drop (β sp k ge).off).take (len*i.size)) (cs.take (len*i.size)) sp k (ge+1) wm e1 (by omega) I h5t yc Ia ?_ (by rw[FH];omega) (by rw[Ia];exact JA)
           have LP:=PList.length _ _ h5t
           rw[Ia]at LP
           have:=run_loadCells_list (P:=P) w.drew ⟨(β sp k ge).blk,(β sp k ge).off+0,none⟩ ((J.toList.drop (β sp k ge).off).take (len*i.size)) (fun j u H=>by
            rw[kG]
            rw[List.getElem?_take]at H
            split at H
            ·rw[List.getElem?_drop]at H
             unfold World.cell?
             show(match w.heap[(β sp k ge).blk]? with|some (.cells c _ _)=>if(none:Option Nat).isSome then none else c[(β sp k ge).off+0+j]? |_=>none)=some u
             rw[O];simpa using H
            ·cases H)
           rw[←LP]at this
           simp only[Builtin.firstCells]
           exact this
         ·simp[Q.run]at r
     ·simp[Q.run]at r
    ·simp[Q.run]at r
   ·simp[Q.run]at r
end
end Go.Ev
namespace Go.Ev
open Go
theorem Z1{P:Program}{β:iA}{G:Sp→Nat→Nat}{w:World}{M:ic}{s t e:TypeId}{k:Nat}{ex:Bool}{v:Value}(hs:P.underlying s=some (.slice e))(J:P.underlying e=some (.int .u8))(K:P.underlying t=some .string)(H:fy β G w M (.sl [.i .u8 (k:Int)] 1 ex) v)(hk:k<256):
  ∃I,(convert s t v).run P w= .ok (.string I) w∧bytesN I= [k]:=by
 simp only[fy,PRel,PCells]at H
 obtain⟨r,off,N,sp,rfl,V,W,O,⟨u,U,X,rfl,Y⟩,_⟩:=H
 have D:sp=none:=O.resolve_right (by omega)
 subst D
 have:=run_loadCells_list (P:=P) w ⟨r,off,none⟩ [.int .u8 k] (fun j u F=>by
  cases j with
  |zero=>simp at F;subst F;rw[kG];exact U
  |succ j=>simp at F)
 simp only[List.length_cons,List.length_nil,Nat.zero_add]at this
 refine⟨ByteArray.empty.push (UInt8.ofNat k), ?_, ?_⟩
 ·simp[convert,run_underlying hs,run_underlying K,run_underlying J,Conv.bytesToString,this]
 ·have:(UInt8.ofNat k).toNat=k:=by simp[UInt8.toNat_ofNat'];omega
  show [(UInt8.ofNat k).toNat]= [k]
  rw[this]
section
variable{P:Program}{B:lK}{st:St}{a:Act}{w:World}{β:iA}{M:ic}{o:Oper}{v:T}{ups:List Up}
theorem qq{x:Option T}{h:Sp→Nat→b8}{i:Nat}(r:(Ev.val x).run h i=some (.val v ups)):x=some v∧ups= []:=by
 cases x with
 |none=>simp[Ev.val,Q.run]at r
 |some y=>grind [Ev.val,Q.run]
theorem Z2(kD:pd β st.gens w M st.rho a.eval)(h:iH B st w β M){c:Call}(i:o.op= .call c){sh:Nat}{Lm:l9}{d:Nat}(hc:rW P sh c=some Lm)
  (r:(iX d st.rho Lm).run st.get st.sh.length=some (.val v ups)):kP P B st a w β M o v ups:=by
 unfold rW at hc
 split at hc
 ·grind [Option.map_eq_some_iff,iX,Q.run]
 ·grind [iX,Q.run]
 ·grind [iX,Q.run,ZS,ZT,ZU,ZV]
 ·rename_i D
  split at hc
  ·rename_i t u x y F H
   split at hc
   ·grind [agZ]
   ·cases hc
  ·cases hc
 ·grind [Option.map_eq_some_iff,aeH]
 ·grind [Option.map_eq_some_iff,aeH]
 ·cases hc
theorem ag0(kD:pd β st.gens w M st.rho a.eval)(h:iH B st w β M){s t e:TypeId}{x:Operand}{r:im}(H:o.op= .convert s t x)(hx:lE x=some r)(hs:P.underlying s=some (.slice e))(I:P.underlying e=some (.int .u8))(J:P.underlying t=some .string){k:Nat}{ex:Bool}(K:st.rho r= .sl [.i .u8 (k:Int)] 1 ex)(hk:k<256):kP P B st a w β M o (.s [k]) []:=by
 have D:=kD x r hx
 rw[K]at D
 obtain⟨F,N,O⟩:=Z1 hs I J D hk
 exact iB h (cv:= .string F) (by simp[execOp,H,N]) (by simp only[fy];exact⟨F,rfl,O⟩)
theorem aqI(kD:pd β st.gens w M st.rho a.eval)(h:iH B st w β M){sh:Nat}{Lm:l9}{d:Nat}(hc:jL P sh o.op=some Lm)
  (i:(iX d st.rho Lm).run st.get st.sh.length=some (.val v ups)):kP P B st a w β M o v ups:=by
 cases FI:o.op with
 |move x=>
  grind [jL,Option.map_eq_some_iff,iX,Q.run,aeG]
 |assign x=>
  rw[FI]at hc;simp only[jL,Option.map_eq_some_iff]at hc
  obtain⟨y,D,rfl⟩:=hc
  simp[iX,Q.run]at i;obtain⟨rfl,rfl⟩:=i
  simp_all[aeG]
 |pick c x y=>
  grind [jL,iX,Q.run,ZM]
 |alloc t=>
  grind [jL,Un]
 |box t x=>
  grind [jL,Option.map_eq_some_iff,agS]
 |build t ps=>
  grind [jL,Option.map_eq_some_iff,Uk]
 |buildSlice t len ps=>
  grind [jL,agV]
 |load t x=>
  grind [jL,aqn]
 |store t x y=>
  grind [jL,aqB]
 |nilCheck x=>
  grind [jL,Option.map_eq_some_iff,agC]
 |binOp op t x y t'=>
  rw[FI]at hc;simp only[jL]at hc
  split at hc
  ·rename_i x' y' D H
   split at hc
   ·rename_i hk
    simp at hc;subst hc
    obtain⟨e1,rfl⟩:=qq i
    simp only[Option.map_eq_some_iff]at e1
    obtain⟨r,I,rfl⟩:=e1
    exact NP (neg:=false) kD h FI D H (by have:=sU hk;simp[CV,this]) (by simp) I
   ·rename_i hk
    simp at hc;subst hc
    obtain⟨e1,rfl⟩:=qq i
    simp only[Option.map_eq_some_iff]at e1
    obtain⟨r,I,rfl⟩:=e1
    exact NP (neg:=true) kD h FI D H (by have:=sU hk;simp[CV,this]) (by simp) I
   ·simp at hc;subst hc
    obtain⟨e1,rfl⟩:=qq i
    grind [agD]
   ·rename_i hk
    simp only[Option.map_eq_some_iff]at hc
    obtain⟨k,F,rfl⟩:=hc
    obtain⟨e1,rfl⟩:=qq i
    simp only[Option.map_eq_some_iff]at e1
    obtain⟨r,I,rfl⟩:=e1
    refine NP (neg:=false) kD h FI D H F ?_ I
    have O:=qn F
    grind
   ·rename_i hk
    simp only[Option.map_eq_some_iff]at hc
    obtain⟨k,F,rfl⟩:=hc
    obtain⟨e1,rfl⟩:=qq i
    simp only[Option.map_eq_some_iff]at e1
    obtain⟨r,I,rfl⟩:=e1
    refine NP (neg:=true) kD h FI D H F ?_ I
    have O:=qn F
    grind
   ·cases hc
  ·cases hc
 |unOp op t x=>
  rw[FI]at hc;simp only[jL,Option.map_eq_some_iff]at hc
  obtain⟨y,D,rfl⟩:=hc
  obtain⟨e1,rfl⟩:=qq i
  grind [aqm]
 |convert s t x=>
  rw[FI]at hc;simp only[jL]at hc
  split at hc
  ·grind [iX,Q.run,agF]
  ·rename_i e y D H F
   split at hc
   ·rename_i N
    simp at hc;subst hc
    simp only[iX]at i
    split at i
    ·rename_i k ex K
     split at i
     ·rename_i hk
      simp[Q.run]at i;obtain⟨rfl,rfl⟩:=i
      exact ag0 kD h FI F D N H K hk
     ·simp[Q.run]at i
    ·simp[Q.run]at i
   ·cases hc
  ·cases hc
 |makeFunc V first W=>
  rw[FI]at hc
  cases V <;> simp only[jL]at hc <;> try (cases hc;done)
  grind [iX,Q.run,ZP]
 |makeMap t r=>
  rw[FI]at hc
  cases r <;> simp only[jL]at hc
  ·grind [Uo]
  ·cases hc
 |makeSlice t l c=>
  grind [jL,ZW]
 |slice t x l X m=>
  rw[FI]at hc;simp only[jL]at hc
  split at hc
  ·rename_i y Y Z D H F N K
   simp at hc;subst hc
   have U:m=none:=by cases m <;> simp[tQ]at K ⊢
   grind [agM]
  ·rename_i e y Y Z m' D H F N K
   split at hc
   ·rename_i n hn
    split at hc
    ·rename_i J
     simp at J hc;subst hc
     refine agN kD h FI H F N K D hn J.1 ?_ i
     intro U
     rcases J.2 with e1|e1
     ·cases m with
      |none=>simp at U
      |some mm=>grind [tQ,Option.map_eq_some_iff]
     ·cases X with
      |none=>grind [tQ]
      |some _=>rfl
    ·cases hc
   ·cases hc
  ·cases hc
 |fieldAddr s x f=>
  grind [jL,aqo]
 |field s x f=>
  grind [jL,agI]
 |indexAddr t x j=>
  grind [jL,aqp,agL]
 |index t x j=>
  grind [jL,agK,agJ]
 |lookup t m k ok=>
  grind [jL,aqF]
 |mapUpdate t m k x=>
  grind [jL,Option.map_eq_some_iff,aqG]
 |extract x j=>
  rw[FI]at hc;simp only[jL,Option.map_eq_some_iff]at hc
  obtain⟨y,D,rfl⟩:=hc
  simp only[iX]at i
  split at i
  ·rename_i vs e
   obtain⟨e1,rfl⟩:=qq i
   grind [agG]
  ·simp[Q.run]at i
 |call c=>grind [jL,Z2]
 |_=>grind [jL]
end
end Go.Ev
