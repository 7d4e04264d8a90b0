/- A tree evaluator over the model, proved against it (part C): where it answers, the call returns that answer. Conditions: none beyond its theorems' own. -/
import Derived.Test.YtbdfboojnfinkaaGreatEvB
import Derived.Laws.Tables
set_option linter.unusedSimpArgs false
set_option linter.unusedVariables false
namespace Go.Ev
open Go
theorem xt{P:Program}{t:TypeId}{z:T}(h:rR P t=some z): ∃i D,P.info? t=some i∧i.zero=some D∧BW D=some z:=by
 unfold rR at h
 cases hi:P.info? t with
 |none=>simp[hi]at h
 |some i=>
  simp only[hi,Option.bind_some]at h
  cases E:i.zero with
  |none=>simp[E]at h
  |some D=>grind
theorem Ei{P:Program}{t:TypeId}{z:T}(h:rR P t=some z)(w:World): ∃D,(zeroValue t).run P w= .ok D w∧ ∀w M,PRel w M z D:=by
 obtain⟨i,D,E,F,H⟩:=xt h
 exact⟨D,by simp[zeroValue,typeInfo,E,F],fun w M=>qa H⟩
theorem sU{β:iJ}{G:Sp→Nat→Nat}{w:World}{M:MSet}{t:T}{cv:Value}(h:il β G w M t cv)(D:noTup t=true):iq β G w M (cellsOf t) cv.cells.toList∧(cellsOf t).all single=true:=by
 cases t
 case agg cs=>
  simp only[il]at h
  obtain⟨a,rfl,E,F⟩:=h
  exact⟨E,F⟩
 case tup cs=>simp[noTup]at D
 case any=>simp[noTup]at D
 all_goals
  have H:=h
  simp only[il,PRel]at h
  refine⟨?_,rfl⟩
  simp only[cellsOf,iq]
  refine⟨cv,[], ?_,H,rfl⟩
  first
   |(subst h;rfl)
   |(obtain⟨_,rfl,_⟩:=h;rfl)
   |(obtain⟨_,_,rfl,_⟩:=h;rfl)
   |(obtain⟨_,_,_,rfl,_⟩:=h;rfl)
   |(obtain⟨_,_,_,_,rfl,_⟩:=h;rfl)
   |(obtain⟨_,rfl⟩:=h;rfl)
theorem xu{w:World}{M:MSet}{t:T}{cv:Value}(h:PRel w M t cv)(D:noTup t=true):PList w M (cellsOf t) cv.cells.toList∧(cellsOf t).all single=true:=by
 cases t
 case agg cs=>
  simp only[PRel]at h
  obtain⟨a,rfl,E,F⟩:=h
  exact⟨E,F⟩
 case tup cs=>simp[noTup]at D
 case any=>simp[noTup]at D
 case isl=>simp only[PRel]at h
 case ptr=>simp only[PRel]at h
 case mp=>simp only[PRel]at h
 all_goals
  have H:=h
  simp only[PRel]at h
  refine⟨?_,rfl⟩
  simp only[cellsOf,PList]
  refine⟨cv,[], ?_,H,rfl⟩
  first
   |(subst h;rfl)
   |(obtain⟨_,rfl,_⟩:=h;rfl)
   |(obtain⟨_,_,rfl,_⟩:=h;rfl)
   |(obtain⟨_,_,_,rfl,_⟩:=h;rfl)
   |(obtain⟨_,_,_,_,rfl,_⟩:=h;rfl)
theorem jW{α:Type}: ∀(cs:List α) (off:Nat) (D:List α),(splice cs off D).length=cs.length
 |cs,0,[]=>by grind [splice]
 | [],0,v::D=>by simp[splice]
 |c::cs,0,v::D=>by simp[splice,jW cs 0 D]
 | [],off+1,D=>by simp[splice]
 |c::cs,off+1,D=>by simp[splice,jW cs off D]
theorem qd{α:Type}: ∀(cs:List α) (off:Nat),splice cs off []=cs
 |cs,0=>by grind [splice]
 | [],off+1=>by simp[splice]
 |c::cs,off+1=>by simp[splice,qd cs off]
theorem Ad{α:Type}: ∀(cs:List α) (off:Nat) (v:α) (D:List α),splice (cs.set off v) (off+1) D=splice cs off (v::D)
 | [],off,v,D=>by grind [splice]
 |c::cs,0,v,D=>by simp[splice]
 |c::cs,off+1,v,D=>by simp[splice,Ad cs off v D]
theorem lF{α:Type}: ∀(cs:List α) (off:Nat) (D:List α) (j:Nat),(splice cs off D)[j]? =if off≤j∧j<off+D.length∧j<cs.length then D[j-off]? else cs[j]?
 |cs,0,[],j=>by rw[qd];simp
 | [],0,v::D,j=>by simp[splice]
 |c::cs,0,v::D,0=>by simp[splice]
 |c::cs,0,v::D,j+1=>by simp[splice,lF cs 0 D j]
 | [],off+1,D,j=>by simp[splice]
 |c::cs,off+1,D,0=>by simp[splice]
 |c::cs,off+1,D,j+1=>by
  simp only[splice,List.getElem?_cons_succ,lF cs off D j,List.length_cons]
  grind
theorem iq.splice{β:iJ}{G:Sp→Nat→Nat}{w:World}{M:MSet}: ∀{cs:List T} {E:List Value} {off:Nat} {H:List T} {Kw:List Value},iq β G w M cs E→iq β G w M H Kw→iq β G w M (splice cs off H) (splice E off Kw)
 |cs,E,0,[],Kw,D,F=>by grind [iq,qd]
 | [],E,0,v::H,Kw,D,F=>by grind [iq,Ev.splice]
 |c::cs,E,0,v::H,Kw,D,F=>by
  simp only[iq]at D F
  obtain⟨a,as,rfl,J,I⟩:=D
  obtain⟨u,us,rfl,K,N⟩:=F
  simp only[Ev.splice,iq]
  exact⟨u,_,rfl,K,iq.splice I N⟩
 | [],E,off+1,H,Kw,D,F=>by simp_all[iq,Ev.splice]
 |c::cs,E,off+1,H,Kw,D,F=>by
  simp only[iq]at D
  obtain⟨a,as,rfl,J,I⟩:=D
  simp only[Ev.splice,iq]
  exact⟨a,_,rfl,J,iq.splice I F⟩
theorem PList.splice{w:World}{M:MSet}: ∀{cs:List T} {E:List Value} {off:Nat} {H:List T} {Kw:List Value},PList w M cs E→PList w M H Kw→PList w M (splice cs off H) (splice E off Kw)
 |cs,E,0,[],Kw,D,F=>by grind [PList,qd]
 | [],E,0,v::H,Kw,D,F=>by grind [PList,Ev.splice]
 |c::cs,E,0,v::H,Kw,D,F=>by
  simp only[PList]at D F
  obtain⟨a,as,rfl,J,I⟩:=D
  obtain⟨u,us,rfl,K,N⟩:=F
  simp only[Ev.splice,PList]
  exact⟨u,_,rfl,K,PList.splice I N⟩
 | [],E,off+1,H,Kw,D,F=>by simp_all[PList,Ev.splice]
 |c::cs,E,off+1,H,Kw,D,F=>by
  simp only[PList]at D
  obtain⟨a,as,rfl,J,I⟩:=D
  simp only[Ev.splice,PList]
  exact⟨a,_,rfl,J,PList.splice I F⟩
theorem sV{p:T→Bool}{cs D:List T}{off:Nat}(E:cs.all p=true)(F:D.all p=true):(splice cs off D).all p=true:=by
 grind [List.all_eq_true,lF,List.getElem?_of_mem]
theorem zf(off:Nat): ∀(E:List Value) (s:Nat) (D:Array Value),((E.zipIdx s).foldl (fun(cs:Array Value) (p:Value×Nat)=>cs.setIfInBounds (off+p.2) p.1) D).toList=splice D.toList (off+s) E
 | [],s,D=>by simp[qd]
 |v::E,s,D=>by
  simp only[List.zipIdx_cons,List.foldl_cons]
  rw[zf off E (s+1),Array.toList_setIfInBounds,←Nat.add_assoc,Ad]
theorem Ms{β:iJ}{G:Sp→Nat→Nat}{w:World}{M:MSet}{place:Nat→Option (Nat×Nat)}: ∀(parts:List (Nat×Value)) (F:List (Nat×List T)) (H:List T) (E:Array Value) (I:List T),
  iq β G w M H E.toList→H.all single=true→parts.length=F.length→(∀(j i:Nat) (cv:Value) (off:Nat) (ts:List T),parts[j]? =some (i,cv)→F[j]? =some (off,ts)→place i=some (off,ts.length)∧iq β G w M ts cv.cells.toList∧ts.all single=true)→
  pB H F=some I→ ∃rc,Instr.fill place E parts=some rc∧iq β G w M I rc.toList∧I.all single=true
 | [],F,H,E,I,K,hs,D,N,J=>by
   grind [pB,Instr.fill]
 |(i,cv)::parts,F,H,E,I,K,hs,D,N,J=>by
  cases F with
  |nil=>simp at D
  |cons p F=>
   obtain⟨off,ts⟩:=p
   simp only[pB]at J
   split at J
   ·rename_i U
    obtain⟨Y,O,V⟩:=N 0 i cv off ts rfl rfl
    have J1:=iq.length _ _ O
    have Qu:=iq.length _ _ K
    have W:cv.cells.size=ts.length:=by rw[J1];simp
    have X:E.size=H.length:=by rw[Qu];simp
    have Z: ¬((cv.cells.size≠ts.length||off+cv.cells.size>E.size)=true):=by
     grind
    have e:(cv.cells.zipIdx.foldl (fun(cs:Array Value) (p:Value×Nat)=>cs.setIfInBounds (off+p.2) p.1) E).toList=splice E.toList off cv.cells.toList:=by
     have:=zf off cv.cells.toList 0 E
     grind [Array.toList_zipIdx]
    obtain⟨rc,r1,r2,r3⟩:=Ms parts F (splice H off ts) (cv.cells.zipIdx.foldl (fun(cs:Array Value) (p:Value×Nat)=>cs.setIfInBounds (off+p.2) p.1) E) I
     (by rw[e];exact iq.splice K O) (sV hs V) (by simpa using D) (fun j i cv off ts a b=>N (j+1) i cv off ts (by simpa using a) (by simpa using b)) J
    grind [Instr.fill]
   ·cases J
section
variable{P:Program}{B:lL}{st:St}{a:Act}{w:World}{β:iJ}{M:MSet}{o:Oper}{v:T}{ups:List Up}
theorem xw{E:List (Nat×Nat)}: ∀{D:List (Nat×Operand)} {r:List (Nat×Nat×iD)},placesOf E D=some r→D.length=r.length∧ ∀(j i:Nat) (x:Operand) (off n:Nat) (y:iD),D[j]? =some (i,x)→r[j]? =some (off,n,y)→E[i]? =some (off,n)∧lJ x=some y
 | [],r,h=>by grind [placesOf]
 |(H,I)::D,r,h=>by
  simp only[placesOf]at h
  split at h
  ·rename_i p y J K N F
   simp at h;subst h
   obtain⟨a1,a2⟩:=xw F
   grind
  ·cases h
theorem vZ{sz:Nat}: ∀{D:List (Nat×Operand)} {r:List (Nat×Nat×iD)},pU sz D=some r→D.length=r.length∧ ∀(j i:Nat) (x:Operand) (off n:Nat) (y:iD),D[j]? =some (i,x)→r[j]? =some (off,n,y)→(off=i*sz∧n=sz)∧lJ x=some y
 | [],r,h=>by grind [pU]
 |(F,H)::D,r,h=>by
  simp only[pU]at h
  split at h
  ·rename_i y I J E
   simp at h;subst h
   obtain⟨a1,a2⟩:=vZ E
   grind
  ·cases h
variable(kP:pC β st.gens w M st.rho a.eval)(h:iU B st w β M)
include kP h
theorem SI{d nx:Nat}{t:TypeId}{D:Array (Nat×Operand)}{z:T}{r:List (Nat×Nat×iD)}(ho:o.op= .build t D)(hz:rR P t=some z)
  (O:(∃U F,P.underlying t=some (.struct U)∧U.toList.mapM (fun f=>(P.info? f.type).map fun i=>(f.offset,i.size))=some F∧placesOf F D.toList=some r)∨(∃n e sz,P.underlying t=some (.array n e)∧lA P e=some sz∧pU sz D.toList=some r))
  (V:noTup z=true) (H:(jk d st.rho (.build (cellsOf z) r)).run st.get nx=some (.val v ups)):ln P B st a w β M o v ups:=by
 obtain⟨i,W,z1,z2,z3⟩:=xt hz
 have X:il β st.gens w M z W:=PRel.toV _ _ _ _ (qa z3)
 obtain⟨Y,Z⟩:=sU X V
 simp only[jk]at H
 split at H
 ·rename_i I
  cases hf:pB (cellsOf z) (r.map fun p=>(p.1,cellsOf (st.rho p.2.2)))with
  |none=>simp[hf,Ev.val,Q.run]at H
  |some rs=>
   simp[hf,Ev.val,Q.run]at H;obtain⟨rfl,rfl⟩:=H
   have parts: ∃place:Nat→Option (Nat×Nat),(∀rc,Instr.fill place W.cells (D.toList.map fun p=>(p.1,a.eval p.2))=some rc→P.built t (D.map fun(i,x)=>(i,a.eval x)).toList=some rc)∧D.toList.length=r.length∧
     ∀(j i:Nat) (x:Operand) (off n:Nat) (y:iD),D.toList[j]? =some (i,x)→r[j]? =some (off,n,y)→place i=some (off,n)∧lJ x=some y:=by
    rcases O with⟨U,F,u1,u2,u3⟩|⟨n,e,sz,u1,u2,u3⟩
    ·obtain⟨g1,g2⟩:=xw u3
     refine⟨fun i=>F[i]?,fun rc E=> ?_,g1,g2⟩
     simp only[Program.built,z1,z2,u1,u2,Array.toList_map]
     have:(fun x:Nat=>F.toArray[x]?)=fun i=>F[i]? :=by funext i;simp
     rw[this];exact E
    ·obtain⟨g1,g2⟩:=vZ u3
     have: ∃J,P.info? e=some J∧J.size=sz:=by
      simp_all[lA]
     obtain⟨J,v1,v2⟩:=this
     refine⟨fun i=>some (i*J.size,J.size),fun rc E=> ?_,g1,fun j i x off n y K N=> ?_⟩
     ·simp only[Program.built,z1,z2,u1,v1,Array.toList_map];exact E
     ·obtain⟨⟨rfl,rfl⟩,c⟩:=g2 j i x off n y K N
      exact⟨by rw[v2],c⟩
   obtain⟨place,q1,q2,q3⟩:=parts
   obtain⟨rc,r1,r2,r3⟩:=Ms (place:=place) (D.toList.map fun p=>(p.1,a.eval p.2)) _ (cellsOf z) W.cells rs Y Z (by simp[q2]) (by
    intro j i cv off ts K N
    rw[List.getElem?_map,Option.map_eq_some_iff]at K N
    obtain⟨⟨i',x⟩,c1,c2⟩:=K
    obtain⟨⟨atO,n,y⟩,c3,c4⟩:=N
    simp at c2 c4
    obtain⟨rfl,rfl⟩:=c2
    obtain⟨rfl,rfl⟩:=c4
    obtain⟨e1,e2⟩:=q3 j i' x atO n y c1 c3
    have hv:=kP x y e2
    have SJ:=(List.all_eq_true.1 I) _ (List.mem_of_getElem? c3)
    simp at SJ
    obtain⟨k1,k2⟩:=sU hv SJ.2
    exact⟨by rw[e1,SJ.1],k1,k2⟩) hf
   refine iL h (cv:= .agg rc) ?_ (by simp only[il];exact⟨rc,rfl,r2,r3⟩)
   have:=run_build (P:=P) w t (D.map fun(i,x)=>(i,a.eval x)) rc (q1 rc r1)
   simp[execOp,ho,this]
 ·simp[Q.run]at H
end
end Go.Ev
namespace Go.Ev
open Go
theorem oE{st:St}{d:Nat}{sh:Bool}{ob:Ob}{f:Sp→Nat→Nat→T}{v:T}{ups:List Up}(h:(ot d sh ob f).run st.get st.sh.length=some (.val v ups)):
  ∃sp k g,v=f sp k g∧ups= [(sp,k,⟨g,ob⟩)]∧st.gens sp k<g∧(sp= .S→sh=true):=by
 grind [ot,Q.run,St.get,Eg,lI]
theorem xx{α:Type}(z:List α): ∀n,(repl z n).length=n*z.length
 |0=>by simp[repl]
 |n+1=>by simp[repl,xx z n,Nat.add_mul];omega
theorem Ic{α:Type}(z:List α)(D:z≠ []): ∀(n j:Nat),j<n*z.length→(repl z n)[j]? =z[j%z.length]?
 |0,j,h=>by simp at h
 |n+1,j,h=>by
  have F:0<z.length:=List.length_pos_iff.2 D
  simp only[repl]
  by_cases E:j<z.length
  ·rw[List.getElem?_append_left E,Nat.mod_eq_of_lt E]
  ·rw[List.getElem?_append_right (by omega),Ic z D n (j-z.length) (by rw[Nat.add_mul]at h;omega)]
   grind [Nat.mod_eq_sub_mod]
theorem B4(z:Array Value)(n:Nat)(D:z.size≠0):((Array.range (n*z.size)).map (fun i=>z[i%z.size]!)).toList=repl z.toList n:=by
 apply List.ext_getElem?
 grind [Ic,List.getElem?_eq_none,xx,Nat.mod_lt]
theorem PList.repl{w:World}{M:MSet}{z:List T}{D:List Value}(h:PList w M z D): ∀n,PList w M (Ev.repl z n) (Ev.repl D n)
 |0=>by simp[Ev.repl,PList]
 |n+1=>by simp only[Ev.repl];exact PList.append h (PList.repl h n)
theorem B5{z:List T}(h:z.all single=true): ∀n,(repl z n).all single=true
 |0=>by simp[repl]
 |n+1=>by simp only[repl,List.all_append,Bool.and_eq_true];exact⟨h,B5 h n⟩
theorem Dy{P:Program}{w:World}{t e:TypeId}{i:TypeInfo}{D:Value}{k:IntKind}{m:Int}(F:P.underlying t=some (.slice e))(hi:P.info? e=some i)(H:i.zero=some D)(K:0≤m)(SK:IntKind.i64.wrap m=m)
  (N:(i.bytes:Int)*m≤281474976710656) (O:m.toNat*i.bytes≤140737488355328):
  (Instr.makeSlice t (.int k m) (.int k m)).run P w= .ok (.slice (some ⟨w.heap.size,0,none⟩) m.toNat m.toNat) (w.alloc (.cells ((Array.range (m.toNat*i.size)).map (fun j=>D.cells[j%D.cells.size]!)) e)):=by
 have I: ¬(m<0):=by omega
 have U: ¬(281474976710656<(i.bytes:Int)*m):=by omega
 have V: ¬(140737488355328<m.toNat*i.bytes):=by omega
 have J: ¬(m.toNat*i.bytes>roomBytes):=by unfold roomBytes;omega
 simp only[Instr.makeSlice,Sem.run_bind,run_underlying F,Result.andThen_ok,asInt,asIntOf,Sem.run_pure,typeInfo,run_program,hi,SK]
 simp only[I,decide_false,Bool.false_or,Int.lt_irrefl,gt_iff_lt,Bool.or_false]
 rw[if_neg (by simp;omega)]
 simp only[Sem.run_bind,askRoom,if_neg J,Sem.run_pure,Result.andThen_ok,sizeOf,typeInfo,run_program,hi]
 by_cases E:m.toNat*i.size=0
 ·rw[if_pos E,E]
  have:Array.range 0= #[]:=rfl
  simp[newRow,this]
 ·rw[if_neg E]
  simp[newRow,zeroValue,typeInfo,hi,H]
section
variable{P:Program}{B:lL}{st:St}{a:Act}{w:World}{β:iJ}{M:MSet}{o:Oper}{v:T}{ups:List Up}
theorem zg(h:iU B st w β M)(el:TypeId)(c:Array Value)(cs:List T)(bx:Bool)(sp:Sp)(k g:Nat)(H:st.gens sp k<g)
  (I:oY sp bx β st.gens w M cs (c.toList.take cs.length)) (hs:cs.all single=true) (E:cs.length≤c.size):
  iU B (st.up (sp,k,⟨g,.cells cs 0 bx⟩)) (w.alloc (.cells c el)) (nv β sp k g ⟨w.heap.size,0,c.size⟩) (fun b x=>M b x∨b=w.heap.size)∧
  Tr st w β M (st.up (sp,k,⟨g,.cells cs 0 bx⟩)) (w.alloc (.cells c el)) (nv β sp k g ⟨w.heap.size,0,c.size⟩) (fun b x=>M b x∨b=w.heap.size):=by
 have J: ∀D k' F,F≤st.gens D k'→nv β sp k g ⟨w.heap.size,0,c.size⟩ D k' F=β D k' F:=by
  grind [xm]
 have K: ∀D k',st.gens D k'≤(st.up (sp,k,⟨g,.cells cs 0 bx⟩)).gens D k':=by
  intro D k'
  rw[lb]
  grind
 refine SC h sp k g H (.cells c el) c.size (.cells cs 0 bx) ?_
 unfold kM
 simp only[jv]
 refine⟨c,el,(0,0),by rw[heap_alloc,if_pos rfl],by omega,E,rfl, ?_,fun j _ _=>Or.inr (by trivial),hs,Nat.zero_le _⟩
 simp only[List.drop_zero]
 exact oY.mono (sP w M _) J K I
theorem FD{o':Obj}{sp:Sp}{k g:Nat}{ob:Ob}{ext:Nat}{cv:Value}{v:T}(E:(execOp a.eval o).run P w= .ok (.value cv) (w.alloc o'))
  (D:iU B (st.up (sp,k,⟨g,ob⟩)) (w.alloc o') (nv β sp k g ⟨w.heap.size,0,ext⟩) (fun b x=>M b x∨b=w.heap.size)∧
    Tr st w β M (st.up (sp,k,⟨g,ob⟩)) (w.alloc o') (nv β sp k g ⟨w.heap.size,0,ext⟩) (fun b x=>M b x∨b=w.heap.size))
  (F:il (nv β sp k g ⟨w.heap.size,0,ext⟩) (st.up (sp,k,⟨g,ob⟩)).gens (w.alloc o') (fun b x=>M b x∨b=w.heap.size) v cv):ln P B st a w β M o v [(sp,k,⟨g,ob⟩)]:=
 ⟨_,cv,_,_,_,E,.inl rfl,D.1,D.2,by show _≤(w.heap.push o').size;simp,F⟩
theorem Tr.less{M':MSet}(hs: ∀b x,M' b x→M b x):Tr st w β M st w β M':=⟨kf hs,fun _ _ _ _=>rfl,fun _ _=>Nat.le_refl _⟩
theorem ln.less{M':MSet}(hs: ∀b x,M' b x→M b x)(h:ln P B st a w β M' o v ups):ln P B st a w β M o v ups:=by
 obtain⟨D,cv,w',E,M2,F,H,I,J,K,N⟩:=h
 exact⟨D,cv,w',E,M2,F,H,I,(Tr.less hs).trans J (Nat.le_refl _),K,N⟩
theorem xy{l:List Value}{n:Nat}(h:n=l.length):l.take n=l:=by subst h;simp
variable(kP:pC β st.gens w M st.rho a.eval)(h:iU B st w β M)
include h
theorem SL{d:Nat}{sh:Bool}{t:TypeId}{z:T}(I:o.op= .alloc t)(J:rR P t=some z)(E:noTup z=true)
  (F:(jk d st.rho (.alloc (cellsOf z) sh)).run st.get st.sh.length=some (.val v ups)):ln P B st a w β M o v ups:=by
 simp only[jk]at F
 obtain⟨sp,k,g,rfl,rfl,K,N⟩:=oE F
 obtain⟨O,U,V⟩:=Ei J w
 obtain⟨H,W⟩:=xu (V w M) E
 have D:=PList.length _ _ H
 refine FD (cv:= .pointer (some ⟨w.heap.size,0,none⟩)) ?_ (zg h t O.cells (cellsOf z) true sp k g K (by rw[xy D];exact oY.ofP H) W (by rw[D];simp)) ?_
 ·simp[execOp,I,Instr.alloc,U,newVar,newRow]
 ·simp[il,jv,lb]
include kP
theorem aeo{d:Nat}{sh:Bool}{t:TypeId}{x:Operand}{I:iD}(X:o.op= .box t x)(Y:lJ x=some I)
  (D:(jk d st.rho (.box I sh)).run st.get st.sh.length=some (.val v ups)):ln P B st a w β M o v ups:=by
 have Z:=kP x I Y
 simp only[jk]at D
 split at D
 ·simp[Q.run]at D
 ·rename_i F
  simp at F
  have J: ∀(M':MSet) (E:T),iU B st w β M'→noTup E=true→ ∀sp k g,st.gens sp k<g→(match sp with| .L=>il β st.gens w M' E (a.eval x)| .S=>sQ true β st.gens w M' E (a.eval x))→ln P B st a w β M' o (.ptr sp k g 0) [(sp,k,⟨g,.cells (cellsOf E) 0 true⟩)]:=by
   intro M' E h' F sp k g K ht
   have N:il β st.gens w M' E (a.eval x):=by
    grind [sQ.toV]
   obtain⟨U,c2⟩:=sU N F
   have H:=iq.length _ _ U
   refine FD (cv:= .pointer (some ⟨w.heap.size,0,none⟩)) ?_ (zg h' t (a.eval x).cells (cellsOf E) true sp k g K (by
    rw[xy H]
    cases sp
    ·exact U
    ·exact fun iO G' p q=>(sU (ht iO G' p q) F).1) c2 (by rw[H];simp)) ?_
   ·simp[execOp,X,Instr.box,newVar,newRow]
   ·simp[il,jv,lb]
  split at D
  ·simp only[Q.run_bind]at D
   cases O:(fz true iE (st.rho I)).run st.get st.sh.length with
   |none=>simp[O]at D
   |some p=>
    obtain⟨E,us⟩:=p
    simp only[O,Option.bind_some]at D
    split at D
    ·rename_i V
     simp at V
     obtain⟨rfl,WA⟩:=V
     obtain⟨sp,k,g,rfl,rfl,K,hgs⟩:=oE D
     obtain⟨M',q1,q2,q3,W,q5⟩:=Aa true st iE (st.rho I) B st w β M _ E [] _ (Fz.refl st) h Z O
     exact ln.less q3 (J M' E q1 WA sp k g K (by cases sp;exact W.toV;exact W))
    ·simp[Q.run]at D
  grind [oE]
omit kP in
theorem SM{d:Nat}{sh:Bool}{t:TypeId}(E:o.op= .makeMap t none)(D:(jk d st.rho (.mkmap sh)).run st.get st.sh.length=some (.val v ups)):ln P B st a w β M o v ups:=by
 simp only[jk]at D
 obtain⟨sp,k,g,rfl,rfl,F,H⟩:=oE D
 refine FD (ext:=0) (cv:= .map (some w.heap.size)) (o':= .map #[] 0) ?_ (SC h sp k g F (.map #[] 0) 0 (.map [] [] false) ?_) ?_
 ·simp[execOp,E,Instr.makeMap]
 ·unfold kM
  simp only[jv]
  exact⟨#[],0,by rw[heap_alloc,if_pos rfl],MapKept.stamped_empty 0,by simp[PList],by simp[PList],fun _ _=>Or.inr (by trivial)⟩
 ·simp[il,jv,lb]
theorem Xv{d:Nat}{sh:Bool}{t e:TypeId}{l c:Operand}{N:iD}{i:TypeInfo}{z:T}(ho:o.op= .makeSlice t l c)(ht:P.underlying t=some (.slice e))(hi:P.info? e=some i)(hz:rR P e=some z)(hl:lJ l=some N)(O:Fw l c=true)
  (U:noTup z=true) (D:i.size=(cellsOf z).length) (h0:i.size≠0)
  (H:(jk d st.rho (.mksl (cellsOf z) i.bytes N sh)).run st.get st.sh.length=some (.val v ups)):ln P B st a w β M o v ups:=by
 have vl:=kP l N hl
 have ec:a.eval c=a.eval l:=by
  unfold Fw at O
  grind
 simp only[jk]at H
 split at H
 ·rename_i n en
  obtain⟨k0,m,em,hm,rfl⟩:=nN en
  rw[em]at vl
  have el:=vl.int
  split at H
  ·rename_i lS
   simp at lS
   obtain⟨V,W⟩:=lS
   obtain⟨sp,k,g,rfl,rfl,hg,hgs⟩:=oE H
   obtain⟨i',E,X,z2,z3⟩:=xt hz
   rw[hi]at X;simp at X;subst X
   obtain⟨c1,c2⟩:=xu (w:=w) (M:=M) (qa z3) U
   have I:=PList.length _ _ c1
   have Y:E.cells.size=i.size:=by rw[D,I];simp
   have Z:=B4 E.cells m.toNat (by omega)
   have aeq:roomy=1099511627776:=rfl
   rw[aeq]at V W
   have SK:IntKind.i64.wrap m=m:=by
    simp[IntKind.wrap,IntKind.bits,IntKind.signed];omega
   have J:((Array.range (m.toNat*i.size)).map (fun j=>E.cells[j%E.cells.size]!)).size=m.toNat*i.size:=by simp
   refine FD (cv:= .slice (some ⟨w.heap.size,0,none⟩) m.toNat m.toNat) ?_ (zg h e ((Array.range (m.toNat*i.size)).map (fun j=>E.cells[j%E.cells.size]!)) (repl (cellsOf z) m.toNat) (Xg (cellsOf z)) sp k g hg ?_ (B5 c2 _) ?_) ?_
   ·have K:(i.bytes:Int)*m=((m.toNat*i.bytes:Nat):Int):=by rw[Int.natCast_mul,Int.toNat_of_nonneg hm,Int.mul_comm]
    have:=Dy (P:=P) (w:=w) (k:=k0) ht hi z2 hm SK (by rw[K];omega) (by omega)
    simp[execOp,ho,ec,el,this]
   ·have F:PList w M (repl (cellsOf z) m.toNat) (((Array.range (m.toNat*i.size)).map (fun j=>E.cells[j%E.cells.size]!)).toList.take (repl (cellsOf z) m.toNat).length):=by
     rw[xx,←D,←Y,Z]
     have:=PList.repl c1 m.toNat
     rw[xy]
     ·exact this
     ·rw[xx];simp
    cases hb:Xg (cellsOf z)with
    |false=>exact F
    |true=>
     cases sp with
     |L=>exact PList.toV β st.gens _ _ F
     |S=>exact fun iO G' _ _=>PList.toV iO G' _ _ F
   ·rw[J,xx,D];exact Nat.le_refl _
   ·simp only[il,jv,lb]
    refine⟨by simp,m.toNat,rfl,Nat.le_refl _, ?_⟩
    rw[J,D];simp
  ·simp[Q.run]at H
 ·simp[Q.run]at H
end
end Go.Ev
namespace Go.Ev
open Go
theorem pM(st:St): ∀(us:List Up) (sp:Sp) (k:Nat),oC us sp k=false→(st.ups us).get sp k=st.get sp k:=by
 intro us
 induction us generalizing st with
 |nil=>intro sp k _;rfl
 |cons u us ih=>
  grind [oC,Bool.or_eq_false_iff,St.ups,lR]
theorem aca(st:St)(u:Up):(st.up u).fr=st.fr:=by obtain⟨sp,k,e⟩:=u;cases sp <;> rfl
theorem FE(st:St): ∀(us:List Up),(st.ups us).fr=st.fr:=by
 intro us
 induction us generalizing st with
 |nil=>rfl
 |cons u us ih=>grind [St.ups,aca]
theorem Ae: ∀{D:List (Nat×Operand)} {r:List (Nat×iD)},u9 D=some r→D.length=r.length∧ ∀(j i:Nat) (x:Operand) (E:Nat) (y:iD),D[j]? =some (i,x)→r[j]? =some (E,y)→E=i∧lJ x=some y
 | [],r,h=>by grind [u9]
 |(H,I)::D,r,h=>by
  simp only[u9]at h
  split at h
  ·rename_i y J K F
   simp at h;subst h
   obtain⟨a1,a2⟩:=Ae F
   grind
  ·cases h
theorem Ie{w:World}{M:MSet}{place:Nat→Option (Nat×Nat)}: ∀(parts:List (Nat×Value)) (F:List (Nat×List T)) (H:List T) (E:Array Value) (I:List T),
  PList w M H E.toList→H.all single=true→parts.length=F.length→(∀(j i:Nat) (cv:Value) (off:Nat) (ts:List T),parts[j]? =some (i,cv)→F[j]? =some (off,ts)→place i=some (off,ts.length)∧PList w M ts cv.cells.toList∧ts.all single=true)→
  pB H F=some I→ ∃rc,Instr.fill place E parts=some rc∧PList w M I rc.toList∧I.all single=true∧I.length=H.length
 | [],F,H,E,I,K,hs,D,N,J=>by
   grind [pB,Instr.fill]
 |(i,cv)::parts,F,H,E,I,K,hs,D,N,J=>by
  cases F with
  |nil=>simp at D
  |cons p F=>
   obtain⟨off,ts⟩:=p
   simp only[pB]at J
   split at J
   ·rename_i U
    obtain⟨Y,O,V⟩:=N 0 i cv off ts rfl rfl
    have J1:=PList.length _ _ O
    have Qu:=PList.length _ _ K
    have W:cv.cells.size=ts.length:=by rw[J1];simp
    have X:E.size=H.length:=by rw[Qu];simp
    have Z: ¬((cv.cells.size≠ts.length||off+cv.cells.size>E.size)=true):=by
     grind
    have e:(cv.cells.zipIdx.foldl (fun(cs:Array Value) (p:Value×Nat)=>cs.setIfInBounds (off+p.2) p.1) E).toList=splice E.toList off cv.cells.toList:=by
     have:=zf off cv.cells.toList 0 E
     grind [Array.toList_zipIdx]
    obtain⟨rc,r1,r2,r3,r4⟩:=Ie parts F (splice H off ts) (cv.cells.zipIdx.foldl (fun(cs:Array Value) (p:Value×Nat)=>cs.setIfInBounds (off+p.2) p.1) E) I
     (by rw[e];exact PList.splice K O) (sV hs V) (by simpa using D) (fun j i cv off ts a b=>N (j+1) i cv off ts (by simpa using a) (by simpa using b)) J
    grind [jW,Instr.fill]
   ·cases J
theorem B6{P:Program}{w:World}{t e:TypeId}{len n:Nat}{i:TypeInfo}{F:Value}{parts:Array (Nat×Value)}{rc:Array Value}(H:P.underlying t=some (.slice e))(hi:P.info? e=some i)(J:i.size=n)(K:i.zero=some F)(N:len*n≤16777216)
  (Ej:Instr.fill (fun j=>some (j*n,n)) ((Array.range (len*n)).map (fun j=>F.cells[j%F.cells.size]!)) parts.toList=some rc):
  (Instr.buildSlice t len parts).run P w= .ok (.slice (some ⟨w.heap.size,0,none⟩) len len) (w.alloc (.cells rc e)):=by
 have If: ¬(len*n>2 ^ 24):=by omega
 have E:(sizeOf e).run P w= .ok n w:=by simp[sizeOf,typeInfo,hi,J]
 have D:(zeroValue e).run P w= .ok F w:=by simp[zeroValue,typeInfo,hi,K]
 unfold Instr.buildSlice
 by_cases Dz:len*n=0
 ·have I: ∀f:Nat→Value,(Array.range (len*n)).map f= #[]:=by
   grind
  rw[I]at Ej
  simp only[Sem.run_bind,run_underlying H,Result.andThen_ok,E,if_neg If,if_pos Dz,Sem.run_pure,I,Ej]
  simp[newRow]
 ·simp only[Sem.run_bind,run_underlying H,Result.andThen_ok,E,if_neg If,if_neg Dz,Sem.run_pure,D,Ej]
  simp[newRow]
section
variable{P:Program}{B:lL}{st:St}{a:Act}{w:World}{β:iJ}{M:MSet}{o:Oper}{v:T}{ups:List Up}
variable(kP:pC β st.gens w M st.rho a.eval)(h:iU B st w β M)
theorem Tr.fz{D:St}{M':MSet}(E:Fz st D)(hs: ∀b x,M' b x→M b x):Tr st w β M D w β M':=
 ⟨kf hs,fun _ _ _ _=>rfl,fun sp k=>by rw[E.gens];exact Nat.le_refl _⟩
include kP h
theorem aer{d U:Nat}{t e:TypeId}{len:Nat}{I:Array (Nat×Operand)}{r:List (Nat×iD)}{z:T}{n:Nat}(ho:o.op= .buildSlice t len I)(ht:P.underlying t=some (.slice e))(hz:rR P e=some z)(V:lA P e=some n)(hr:u9 I.toList=some r)
  (W:noTup z=true) (E:n=(cellsOf z).length) (h0:n≠0) (Ig:len*n≤16777216)
  (D:(jk d st.rho (.bsl (cellsOf z) len r)).run st.get U=some (.val v ups)):ln P B st a w β M o v ups:=by
 simp only[jk,Q.run_bind]at D
 cases X:(jd (Ev.fz false iE) (r.map fun p=>st.rho p.2)).run st.get U with
 |none=>simp[X]at D
 |some p=>
  obtain⟨ts,us⟩:=p
  simp only[X,Option.bind_some]at D
  split at D
  ·rename_i K
   split at D
   ·rename_i cs hf
    simp[Q.run]at D;obtain⟨rfl,rfl⟩:=D
    obtain⟨g1,g2⟩:=Ae hr
    have wN:iq β st.gens w M (r.map fun p=>st.rho p.2) (I.toList.map fun p=>a.eval p.2):=by
     have gen: ∀(J:List (Nat×Operand)) (F:List (Nat×iD)),J.length=F.length→(∀(j i:Nat) (x:Operand) (O:Nat) (y:iD),J[j]? =some (i,x)→F[j]? =some (O,y)→O=i∧lJ x=some y)→iq β st.gens w M (F.map fun p=>st.rho p.2) (J.map fun p=>a.eval p.2):=by
      intro J
      induction J with
      |nil=>grind [iq]
      |cons q J ih=>
       intro F hl hg
       cases F with
       |nil=>simp at hl
       |cons rr F=>
        simp only[List.map_cons,iq]
        exact⟨_,_,rfl,kP _ _ (hg 0 q.1 q.2 rr.1 rr.2 rfl rfl).2,ih F (by simpa using hl) (fun j i x O y a b=>hg (j+1) i x O y (by simpa using a) (by simpa using b))⟩
     grind
    obtain⟨M',q1,q2,q3,q4,q5,q6⟩:=oO (fun t=>Aa false st iE t) _ B st w β M _ ts us U (Fz.refl st) h wN X
    have Y:PList w M' ts (I.toList.map fun p=>a.eval p.2):=q4
    obtain⟨i,Z,z1,z2,z3⟩:=xt hz
    obtain⟨c1,c2⟩:=xu (w:=w) (M:=M') (qa z3) W
    have hzl:=PList.length _ _ c1
    have amP:i.size=n:=by unfold lA at V;rw[z1]at V;simpa using V
    have N:Z.cells.size=n:=by rw[E,hzl];simp
    have aep:=B4 Z.cells len (by omega)
    rw[N]at aep
    have amQ:PList w M' (repl (cellsOf z) len) ((Array.range (len*n)).map (fun j=>Z.cells[j%n]!)).toList:=by
     grind [PList.repl]
    obtain⟨rc,r1,r2,r3,r4⟩:=Ie (place:=fun i=>some (i*n,n)) (I.toList.map fun p=>(p.1,a.eval p.2)) _ (repl (cellsOf z) len) _ cs amQ (B5 c2 len) (by simp[g1,q6]) (by
     intro j i cv off tt b1 b2
     rw[List.getElem?_map,Option.map_eq_some_iff]at b1
     obtain⟨⟨i1,x⟩,c3,c4⟩:=b1
     simp at c4;obtain⟨rfl,rfl⟩:=c4
     rw[List.getElem?_zip_eq_some]at b2
     obtain⟨b3,b4⟩:=b2
     rw[List.getElem?_map,Option.map_eq_some_iff]at b3 b4
     obtain⟨⟨i2,y⟩,d1,d2⟩:=b3
     obtain⟨tv,d3,d4⟩:=b4
     obtain⟨e1,e2⟩:=g2 j i1 x i2 y c3 d1
     subst e1
     simp at d2
     obtain⟨cv',f1,f2⟩:=Y.get d3
     rw[List.getElem?_map,c3]at f1
     simp at f1;subst f1
     have H:=(List.all_eq_true.1 K) _ (List.mem_of_getElem? d3)
     simp at H
     obtain⟨k1,k2⟩:=xu f2 H.2
     subst d4
     exact⟨by rw[H.1,←E,←d2,E],k1,k2⟩) hf
    obtain⟨p1,p2⟩:=ad8 q1 (.cells rc e)
    refine⟨_,.slice (some ⟨w.heap.size,0,none⟩) len len,w.alloc (.cells rc e),β,M', ?_,.inl rfl,p1,(Tr.fz q2 q3).trans p2 (Nat.le_refl _),by show _≤(w.heap.push _).size;simp, ?_⟩
    ·have:=B6 (P:=P) (w:=w) (t:=t) (e:=e) (len:=len) (n:=n) (parts:=I.map fun(i,x)=>(i,a.eval x)) (rc:=rc) ht z1 amP z2 Ig (by rw[N];simpa using r1)
     simp[execOp,ho,this]
    ·simp only[il,PRel]
     refine⟨w.heap.size,0,len,none,rfl,Nat.le_refl _,fun _=>rfl,.inl rfl, ?_⟩
     have WB:=PList.length _ _ r2
     refine PCells.of (c:=rc) (el:=e) (fz:=(0,0)) (by rw[heap_alloc,if_pos rfl]) _ _ ?_ ?_ r3
     ·rw[List.drop_zero,xy WB];exact PList.mono p2.keep _ _ r2
     ·intro x _ _ Wy
      exact Nat.lt_irrefl _ (q1.mlt _ _ Wy)
   ·simp[Q.run]at D
  ·simp[Q.run]at D
end
end Go.Ev
namespace Go.Ev
open Go
theorem pq{w:World}{g:Nat}{WC cs:Array Value}{t:TypeId}{fr:Nat×Nat}(D:w.heap[g]? =some (.cells WC t fr)):w.setRow g cs=setBlock w g (.cells cs t fr):=by
 unfold World.setRow setBlock
 congr 1
 grind
theorem il.one{β:iJ}{G:Sp→Nat→Nat}{w:World}{M:MSet}{t:T}{cv:Value}(h:il β G w M t cv)(hs:single t=true):cv.oneCell'=true:=by
 cases t <;> simp[single]at hs <;> simp only[il,PRel]at h
 all_goals first
  |(subst h;rfl)
  |(obtain⟨_,rfl,_⟩:=h;rfl)
  |(obtain⟨_,_,rfl,_⟩:=h;rfl)
  |(obtain⟨_,_,_,rfl,_⟩:=h;rfl)
  |(obtain⟨_,_,_,_,rfl,_⟩:=h;rfl)
  |(obtain⟨_,rfl⟩:=h;rfl)
theorem iq.one{β:iJ}{G:Sp→Nat→Nat}{w:World}{M:MSet}: ∀{ts:List T} {D:List Value},iq β G w M ts D→ts.all single=true→ ∀v∈D,v.oneCell'=true
 | [],D,h,_=>by grind [iq]
 |t::ts,D,h,hs=>by
  simp only[iq]at h
  obtain⟨u,us,rfl,E,F⟩:=h
  simp only[List.all_cons,Bool.and_eq_true]at hs
  intro v hv
  simp at hv
  rcases hv with rfl|hv
  ·exact E.one hs.1
  ·exact iq.one F hs.2 v hv
theorem Xw(l D:List Value)(k:Nat)(E:k+D.length≤l.length)(j:Nat):(l.take k++D++l.drop (k+D.length))[j]? =(splice l k D)[j]? :=by
 rw[lF]
 grind
theorem B7(l D:List Value)(k:Nat)(E:k+D.length≤l.length):l.take k++D++l.drop (k+D.length)=splice l k D:=by
 apply List.ext_getElem?;intro j;exact Xw l D k E j
section
variable{P:Program}{B:lL}{st:St}{a:Act}{w:World}{β:iJ}{M:MSet}{o:Oper}{v:T}{ups:List Up}
theorem xz(h:iU B st w β M){sp:Sp}{k g F:Nat}{cs:List T}{bx:Bool}(W:st.get sp k=⟨g,.cells cs F bx⟩)(D:Nat)(X:g≤D){c:Array Value}{el:TypeId}
  (Y:w.heap[(β sp k g).blk]? =some (.cells c el (0,0))) (off:Nat) (E:List Value) (J2:List T) (Ih:F≤off) (Ii:off+E.length≤(β sp k g).ext) (hle:F≤J2.length) (Z:J2.length≤(β sp k g).ext) (hs:J2.all single=true)
  (hl:oY sp bx β st.gens w M J2 ((splice (c.toList.drop (β sp k g).off) off E).take J2.length)):
  iU B (st.up (sp,k,⟨D,.cells J2 F bx⟩)) (setBlock w (β sp k g).blk (.cells (splice c.toList ((β sp k g).off+off) E).toArray el)) (nv β sp k D (β sp k g)) M∧
  Tr st w β M (st.up (sp,k,⟨D,.cells J2 F bx⟩)) (setBlock w (β sp k g).blk (.cells (splice c.toList ((β sp k g).off+off) E).toArray el)) (nv β sp k D (β sp k g)) M:=by
 have hg:st.gens sp k=g:=by show(st.get sp k).g=g;rw[W]
 have N:live (st.get sp k):=by rw[W];trivial
 have ho:=h.obj sp k
 rw[W]at ho
 unfold kM at ho
 obtain⟨c0,el0,fz0,V,h2,h3,h4,h5,h6,h7,h8⟩:=ho
 dsimp only at V h2 h3 h4 h6
 rw[Y]at V
 simp at V
 obtain⟨rfl,rfl,rfl⟩:=V
 have Xx:=qS Y
 have hk:kG w M (setBlock w (β sp k g).blk (.cells (splice c.toList ((β sp k g).off+off) E).toArray el)) M:=by
  refine⟨fun b x u J K=> ?_,fun b es cl J K=> ?_,fun _ _ _ h=>h⟩
  ·by_cases O:b=(β sp k g).blk
   ·subst O
    unfold World.cell? at J ⊢
    rw[Y]at J
    rw[ko,if_pos ⟨rfl,Xx⟩]
    simp at J ⊢
    rw[lF,if_neg]
    ·simpa using J
    ·rintro⟨q1,q2,q3⟩
     apply K
     have:=h6 (x-(β sp k g).off) (by omega) (by omega)
     rwa [show(β sp k g).off+(x-(β sp k g).off)=x by omega]at this
   ·rw[nW (w:=w) (by rw[ko,if_neg (fun e=>O e.1)])];exact J
  grind [ko]
 have SN: ∀H k' I,I≤st.gens H k'→nv β sp k D (β sp k g) H k' I=β H k' I:=by
  grind [jv,xm]
 have hG: ∀H k',st.gens H k'≤(st.up (sp,k,⟨D,.cells J2 F bx⟩)).gens H k':=by
  intro H k';rw[lb];split
  ·grind
  ·grind
 have U:=Mh (M':=M) h sp k D (.cells J2 F bx) N (by rw[hg];exact X) (.cells (splice c.toList ((β sp k g).off+off) E).toArray el) (fun _ _ K=>K) (fun _ _ _ K=>K) (by rw[hg];exact hk) (h.base N)
 rw[hg]at U
 refine U ?_
 unfold kM
 simp only[jv]
 refine⟨_,el,(0,0),by rw[ko,if_pos ⟨rfl,Xx⟩],by simp[jW];omega,Z,rfl, ?_,h6,hs,by omega⟩
 have amT:(splice c.toList ((β sp k g).off+off) E).drop (β sp k g).off=splice (c.toList.drop (β sp k g).off) off E:=by
  apply List.ext_getElem?
  grind [lF,List.length_drop]
 simp only[List.toList_toArray]at amT ⊢
 grind [oY.mono]
variable(kP:pC β st.gens w M st.rho a.eval)(h:iU B st w β M)
include h
omit h in
theorem Ek{M':MSet}{us:List Up}{t:TypeId}{n:Nat}{x y:Operand}{sp:Sp}{k g off N:Nat}{cs:List T}{bx:Bool}{ts:List T}(ho:o.op= .store t x y)(hn:lA P t=some n)(W:iU B (st.ups us) w β M')(O:Tr st w β M (st.ups us) w β M')
  (hx:a.eval x= .pointer (some ⟨(β sp k g).blk,(β sp k g).off+off,none⟩)) (X:(st.ups us).get sp k=⟨g,.cells cs N bx⟩) (Ih:N≤off) (hle:off+n≤cs.length) (Y:ts.length=n) (hs:ts.all single=true)
  (H:oY sp bx β (st.ups us).gens w M' ts (a.eval y).cells.toList):
  ln P B st a w β M o iI (us++ [(sp,k,⟨g,.cells (splice cs off ts) N bx⟩)]):=by
 have AF:=W.obj sp k
 rw[X]at AF
 unfold kM at AF
 obtain⟨c,el,fz,I,h2,Z,h4,J,h6,h7,h8⟩:=AF
 dsimp only at I h2 Z h4 J h6
 subst h4
 have F:iq β (st.ups us).gens w M' ts (a.eval y).cells.toList:=H.toV
 have U:=iq.length _ _ F
 have SO:=iq.one F hs
 have D:=run_storeCells_at P (β sp k g).blk ((β sp k g).off+off) el (a.eval y).cells.toList 0 c w I (by simp at U ⊢; omega) SO
 rw[pq I]at D
 simp only[Nat.add_zero]at D
 rw[B7 _ _ _ (by simp at U ⊢; omega)]at D
 have E:=xz W X g (Nat.le_refl _) I off (a.eval y).cells.toList (splice cs off ts) Ih (by omega) (by rw[jW];omega) (by rw[jW];exact Z) (sV h7 hs) (by
  rw[jW]
  have SP:(splice (c.toList.drop (β sp k g).off) off (a.eval y).cells.toList).take cs.length=splice ((c.toList.drop (β sp k g).off).take cs.length) off (a.eval y).cells.toList:=by
   apply List.ext_getElem?
   intro j
   rw[List.getElem?_take,lF,lF,List.getElem?_take,List.length_take]
   by_cases K:j<cs.length
   ·rw[if_pos K,if_pos K]
    by_cases hc:off≤j∧j<off+(a.eval y).cells.toList.length∧j<(c.toList.drop (β sp k g).off).length
    ·rw[if_pos hc,if_pos (by omega)]
    ·rw[if_neg hc,if_neg (by omega)]
   ·rw[if_neg K,if_neg K,if_neg (by omega)]
  rw[SP]
  cases bx
  ·exact PList.splice J H
  ·cases sp
   ·exact iq.splice J H
   ·exact fun iO G' p q=>iq.splice (J iO G' p q) (H iO G' p q))
 rw[rV]at E
 refine⟨.skip,undef,setBlock w (β sp k g).blk (.cells (splice c.toList ((β sp k g).off+off) (a.eval y).cells.toList).toArray el),β,M', ?_,.inr ⟨rfl,rfl⟩, ?_, ?_,by rw[kS];exact Nat.le_refl _, ?_⟩
 ·have V:(a.eval y).cells.size=n:=by simp at U;omega
  simp[execOp,ho,hx,Instr.storeAt,Instr.sureAddr,storeVar,mU hn,V,D]
 ·rw[kH];exact E.1
 ·rw[kH];exact O.trans E.2 (Nat.le_refl _)
 ·simp[il,iI,undef,iq]
include kP
theorem amU{d:Nat}{t:TypeId}{n:Nat}{x y:Operand}{K F:iD}(W:o.op= .store t x y)(hx:lJ x=some K)(hy:lJ y=some F)(X:lA P t=some n)
  (D:(jk d st.rho (.st K F n)).run st.get st.sh.length=some (.val v ups)):ln P B st a w β M o v ups:=by
 have J:=kP x K hx
 have Y:=kP y F hy
 simp only[jk,tP]at D
 split at D
 ·simp[Q.run]at D
 ·rename_i Z
  simp at Z
  obtain⟨H,N⟩:=Z
  split at D
  ·rename_i sp k g off ex
   rw[ex]at J
   simp only[il]at J
   simp only[Q.run]at D
   split at D
   ·rename_i hg
    generalize he:st.get sp k=e at*
    obtain⟨ge,ob⟩:=e
    dsimp only at hg;subst hg
    cases ob with
    |none=>simp[Q.run]at D
    |map _ _ _=>simp[Q.run]at D
    |cells cs wm bx=>
     dsimp only at D
     split at D
     ·rename_i Ih
      simp at Ih
      split at D
      ·rename_i WD
       simp at WD
       obtain⟨rfl,rfl⟩:=WD
       simp[Q.run]at D;obtain⟨rfl,rfl⟩:=D
       obtain⟨k1,k2⟩:=sU Y N
       exact Ek (us:= []) W X h (Tr.refl _ _ _ _) J.2 he Ih.1 Ih.2 H k2 k1
      ·rename_i WD
       simp only[Q.run_bind]at D
       cases O:(fz (bx&&sp== .S) iE (st.rho F)).run st.get st.sh.length with
       |none=>simp[O]at D
       |some p=>
        obtain⟨t',us⟩:=p
        simp only[O,Option.bind_some]at D
        split at D
        ·simp[Q.run]at D
        ·rename_i hh
         simp at hh
         obtain⟨⟨U,E⟩,V⟩:=hh
         simp[Q.run]at D;obtain⟨rfl,rfl⟩:=D
         obtain⟨M',q1,q2,q3,I,q5⟩:=Aa _ st iE (st.rho F) B st w β M _ t' us _ (Fz.refl st) h Y O
         have Mt:(st.ups us).get sp k=⟨ge,.cells cs wm bx⟩:=by rw[pM st us sp k U];exact he
         refine Ek (us:=us) W X q1 (Tr.fz q2 q3) J.2 Mt Ih.1 Ih.2 V ?_ ?_
         ·exact(sU I.toV E).2
         ·cases bx with
          |false=>
           simp only[Bool.false_and]at I
           exact(xu I E).1
          |true=>
           cases sp with
           |L=>simp at WD
           |S=>
            simp only[Bool.true_and,beq_self_eq_true]at I
            rw[q2.gens]
            exact fun iO G' p q=>(sU (I iO G' p q) E).1
     ·simp[Q.run]at D
   ·simp[Q.run]at D
  ·simp[Q.run]at D
end
end Go.Ev
namespace Go.Ev
open Go
section
variable{P:Program}{B:lL}{st:St}{a:Act}{w:World}{β:iJ}{M:MSet}{o:Oper}{v:T}{ups:List Up}
variable(kP:pC β st.gens w M st.rho a.eval)(h:iU B st w β M)
theorem Kx{t N et:TypeId}{ek:EK}{m:Option Nat}{F:Array MapEntry}{E:Nat}{ks vs:List T}{k z r:T}{kv O:Value}{J:Bool}(ht:P.underlying t=some (.map N et))(U:keyOf P N=some ek)
  (hm:(m=none∧F= #[])∨ ∃blk,m=some blk∧w.heap[blk]? =some (.map F E)) (K:PList w M ks (F.toList.map (·.key))) (V:PList w M vs (F.toList.map (·.val))) (I:il β st.gens w M k kv) (hz:(zeroValue et).run P w= .ok O w) (hzr:PRel w M z O)
  (H:nF ek ks vs k z J=some r): ∃cv,(Instr.lookup t (.map m) kv J).run P w= .ok cv w∧il β st.gens w M r cv:=by
 unfold nF at H
 split at H
 ·cases H
 ·rename_i Mr
  simp at Mr
  have Wz:(Instr.checkKey F.isEmpty 10000 N kv).run P w= .ok () w:=Ac (P:=P) U I Mr 9998 F.isEmpty
  have W: ∀D,(Instr.findKey N kv F.toList).run P w= .ok D w→(Instr.lookup t (.map m) kv J).run P w=
    .ok (match D with|some (_,cv)=>if J then .tuple #[cv,.bool true]else cv|none=>if J then .tuple #[O,.bool false]else O) w:=by
   intro D xA
   unfold Instr.lookup
   rcases hm with⟨rfl,rfl⟩|⟨blk,rfl,hb⟩
   ·simp only[Sem.run_bind,run_underlying ht,Result.andThen_ok,Sem.run_pure,Wz,xA]
    cases D with
    |none=>simp[hz]
    |some p=>simp
   ·have AH:(getObj blk).run P w= .ok (.map F E) w:=by simp[getObj,Sem.run,hb]
    simp only[Sem.run_bind,run_underlying ht,Result.andThen_ok,Sem.run_pure,AH,Wz,xA]
    cases D with
    |none=>simp[hz]
    |some p=>simp
  split at H
  ·rename_i i X
   obtain⟨D,r1,Y⟩:=sS (P:=P) U I F.toList ks _ K X
   obtain⟨e,e1,e2⟩:=Y
   simp only[Option.map_eq_some_iff]at H
   obtain⟨v',Z,rfl⟩:=H
   obtain⟨cv,c1,c2⟩:=V.get Z
   grind [il,iq,PRel.toV]
  ·rename_i X
   simp at H;subst H
   obtain⟨D,r1,Y⟩:=sS (P:=P) U I F.toList ks _ K X
   refine⟨_,W D r1, ?_⟩
   have:D=none:=Y
   grind [il,iq,PRel.toV]
  ·cases H
include kP h
theorem amW{d nx:Nat}{t kt et:TypeId}{m k:Operand}{Y k':iD}{N:Bool}{O:EK}{z:T}(ho:o.op= .lookup t m k N)(hm:lJ m=some Y)(hk:lJ k=some k')(ht:P.underlying t=some (.map kt et))(Z:keyOf P kt=some O)(hz:rR P et=some z)
  (E:(jk d st.rho (.lk O Y k' z N)).run st.get nx=some (.val v ups)):ln P B st a w β M o v ups:=by
 have F:=kP m Y hm
 have vk:=kP k k' hk
 obtain⟨zv,z1,z2⟩:=Ei hz w
 have J: ∀(X:Option Nat) (H:Array MapEntry) (D:Nat) (ks I:List T) (r:T),a.eval m= .map X→((X=none∧H= #[])∨ ∃blk,X=some blk∧w.heap[blk]? =some (.map H D))→PList w M ks (H.toList.map (·.key))→PList w M I (H.toList.map (·.val))→
   nF O ks I (st.rho k') z N=some r→ln P B st a w β M o r []:=by
  intro X H D ks I r e1 U V W e5
  obtain⟨cv,r1,r2⟩:=Kx (P:=P) (β:=β) (st:=st) ht Z U V W vk z1 (z2 w M) e5
  exact iL h (cv:=cv) (by simp[execOp,ho,e1,r1]) r2
 simp only[jk]at E
 split at E
 ·rename_i e
  rw[e]at F;simp only[il]at F
  split at E
  ·rename_i Mr
   simp[Q.run]at E;obtain⟨rfl,rfl⟩:=E
   exact J none #[] 0 [] [] _ F (.inl ⟨rfl,rfl⟩) (by simp[PList]) (by simp[PList]) (by simp[nF,Mr,m9])
  ·simp[Q.run]at E
 ·rename_i ks I e
  rw[e]at F;simp only[il,PRel]at F
  obtain⟨blk,H,D,e1,U,_,_,V,W⟩:=F
  cases K:nF O ks I (st.rho k') z N with
  |none=>simp[K,Ev.val,Q.run]at E
  |some r=>
   simp[K,Ev.val,Q.run]at E;obtain⟨rfl,rfl⟩:=E
   exact J _ H D ks I _ e1 (.inr ⟨blk,rfl,U⟩) V W K
 ·rename_i sp kk g e
  rw[e]at F;simp only[il]at F
  simp only[Q.run]at E
  split at E
  ·rename_i hg
   have AF:=h.obj sp kk
   generalize he:st.get sp kk=en at*
   obtain⟨ge,ob⟩:=en
   dsimp only at hg;subst hg
   cases ob with
   |none=>simp[Q.run]at E
   |cells _ _ _=>simp[Q.run]at E
   |map ks I f=>
    dsimp only at E
    unfold kM at AF
    obtain⟨H,D,U,_,V,W,_⟩:=AF
    cases K:nF O ks I (st.rho k') z N with
    |none=>simp[K,Ev.val,Q.run]at E
    |some r=>
     simp[K,Ev.val,Q.run]at E;obtain⟨rfl,rfl⟩:=E
     exact J _ H D ks I _ F.2 (.inr ⟨_,rfl,U⟩) V W K
  ·simp[Q.run]at E
 ·simp[Q.run]at E
omit kP h
theorem PList.set{ts:List T}{D:List Value}(i:Nat){t:T}{cv:Value}(h:PList w M ts D)(E:PRel w M t cv):PList w M (ts.set i t) (D.set i cv):=by
 induction ts generalizing D i with
 |nil=>grind [PList]
 |cons x xs ih=>
  simp only[PList]at h
  obtain⟨u,us,rfl,F,H⟩:=h
  cases i with
  |zero=>grind [PList]
  |succ i=>grind [PList]
theorem wa{c:CK}{x y:T}{F H:Value}(D:il β st.gens w M x F)(E:il β st.gens w M y H)(h:kO c x y=some true)(n:Nat):Instr.sameBits n H F=true:=by
 unfold kO at h
 split at h
 ·simp at h;subst h;rw[D.bool,E.bool];simp[Instr.sameBits]
 ·split at h
  ·rename_i e;subst e;simp at h;subst h;rw[D.int,E.int];simp[Instr.sameBits]
  ·cases h
 ·simp at h;subst h
  obtain⟨I,J,K⟩:=D.str
  obtain⟨N,O,U⟩:=E.str
  rw[J,O]
  have:(N==I)=true:=by
   rw[beq_toListBytes,←mG,←kq,←kq,K,U];simp
  grind [Instr.sameBits]
 ·cases h
theorem uo: ∀{ks:List CK} {xs D:List T} {E F:List Value},iq β st.gens w M xs E→iq β st.gens w M D F→ju ks xs D=some true→ ∀n,E.length=F.length∧((F.zip E).all fun p=>Instr.sameBits n p.1 p.2)=true
 | [],xs,D,E,F,I,J,h,n=>by
   cases xs <;> cases D <;> simp[ju]at h
   simp_all[iq]
 |k::ks,xs,D,E,F,I,J,h,n=>by
  cases xs with
  |nil=>grind [ju]
  |cons x xs=>
   cases D with
   |nil=>simp[ju]at h
   |cons y D=>
    simp only[iq]at I J
    obtain⟨u,us,rfl,N,O⟩:=I
    obtain⟨X,U,rfl,V,K⟩:=J
    simp only[ju]at h
    cases H:kO k x y with
    |none=>simp[H]at h
    |some b=>
     cases b with
     |false=>simp[H]at h
     |true=>
      simp only[H]at h
      obtain⟨Y,W⟩:=uo O K h n
      simp only[List.length_cons,List.zip_cons_cons,List.all_cons,Bool.and_eq_true]
      exact⟨by omega,wa N V H n,W⟩
theorem FF{D:EK}{x y:T}{H I:Value}(J:(∃c,D= .one c)∨ ∃ks,D= .flat ks)(E:il β st.gens w M x H)(F:il β st.gens w M y I)(h:tO D x y=some true)(n:Nat):Instr.sameBits (n+1) I H=true:=by
 rcases J with⟨c,rfl⟩|⟨ks,rfl⟩
 ·exact wa E F h _
 ·unfold tO at h
  split at h <;> simp_all
  rename_i xs O
  simp only[il]at E F
  obtain⟨U,rfl,K,_⟩:=E
  obtain⟨V,rfl,N,_⟩:=F
  obtain⟨W,X⟩:=uo K N h n
  simp_all[Instr.sameBits,Bool.and_eq_true]
theorem Ij{E:EK}{k:T}: ∀{ks:List T} {i:Nat},m9 E k ks=some (some i)→ ∃x,ks[i]? =some x∧tO E k x=some true
 | [],i,h=>by simp[m9]at h
 |x::xs,i,h=>by
  simp only[m9]at h
  split at h
  ·grind
  ·simp only[Option.map_eq_some_iff]at h
   obtain⟨r,F,D⟩:=h
   cases r with
   |none=>simp at D
   |some j=>
    simp at D;subst D
    simp_all[Ij]
  ·cases h
theorem Af{c:CK}{x y:T}{I J:Value}(D:il β st.gens w M x I)(E:il β st.gens w M y J)(h:kO c x y=some true):I=J:=by
 unfold kO at h
 split at h
 ·simp at h;subst h;rw[D.bool,E.bool]
 ·split at h
  ·rename_i e;subst e;simp at h;subst h;rw[D.int,E.int]
  ·cases h
 ·simp at h;subst h
  obtain⟨F,K,N⟩:=D.str
  obtain⟨H,O,U⟩:=E.str
  rw[K,O]
  have V:bytesN F=bytesN H:=N.trans U.symm
  have W:F.data.toList=H.data.toList:=(List.map_inj_right (f:=UInt8.toNat) (fun _ _ h=>UInt8.toNat_inj.1 h)).1 V
  have X:F=H:=ByteArray.ext (Array.toList_inj.1 W)
  rw[X]
 ·cases h
theorem xB: ∀{ks:List CK} {xs D:List T} {E F:List Value},iq β st.gens w M xs E→iq β st.gens w M D F→ju ks xs D=some true→E=F
 | [],xs,D,E,F,I,J,h=>by
   grind [ju,iq]
 |k::ks,xs,D,E,F,I,J,h=>by
  cases xs with
  |nil=>grind [ju]
  |cons x xs=>
   cases D with
   |nil=>simp[ju]at h
   |cons y D=>
    simp only[iq]at I J
    obtain⟨u,us,rfl,N,O⟩:=I
    obtain⟨W,U,rfl,V,K⟩:=J
    simp only[ju]at h
    cases H:kO k x y with
    |none=>simp[H]at h
    |some b=>
     cases b with
     |false=>simp[H]at h
     |true=>
      simp only[H]at h
      rw[Af N V H,xB O K h]
theorem SQ{D:EK}{x y:T}{H I:Value}(J:(∃c,D= .one c)∨ ∃ks,D= .flat ks)(E:il β st.gens w M x H)(F:il β st.gens w M y I)(h:tO D x y=some true):H=I:=by
 rcases J with⟨c,rfl⟩|⟨ks,rfl⟩
 ·exact Af E F h
 ·unfold tO at h
  split at h <;> simp_all
  rename_i xs O
  simp only[il]at E F
  obtain⟨U,rfl,K,_⟩:=E
  obtain⟨V,rfl,N,_⟩:=F
  have:=xB K N h
  simp_all
theorem xC{c:CK}{x y:T}{v:Value}(D:il β st.gens w M x v)(E:il β st.gens w M y v)(h:kO c x y=some false):False:=by
 unfold kO at h
 split at h
 ·have e:=D.bool;rw[E.bool]at e;cases e;simp at h
 ·split at h
  ·rename_i e;subst e
   have e:=D.int;rw[E.int]at e;cases e;simp at h
  ·cases h
 ·obtain⟨F,H,I⟩:=D.str
  obtain⟨J,K,N⟩:=E.str
  grind
 ·cases h
theorem wb: ∀{ks:List CK} {xs D:List T} {v:List Value},iq β st.gens w M xs v→iq β st.gens w M D v→ju ks xs D=some false→False
 | [],xs,D,v,E,F,h=>by
   grind [ju]
 |k::ks,xs,D,v,E,F,h=>by
  cases xs with
  |nil=>grind [ju]
  |cons x xs=>
   cases D with
   |nil=>simp[ju]at h
   |cons y D=>
    simp only[iq]at E F
    obtain⟨u,us,rfl,J,K⟩:=E
    obtain⟨U,N,e,O,H⟩:=F
    cases e
    simp only[ju]at h
    cases I:kO k x y with
    |none=>simp[I]at h
    |some b=>
     cases b with
     |false=>exact xC J O I
     |true=>
      simp only[I]at h
      exact wb K H h
theorem OK{D:EK}{x y:T}{v:Value}(H:(∃c,D= .one c)∨ ∃ks,D= .flat ks)(E:il β st.gens w M x v)(F:il β st.gens w M y v)(h:tO D x y=some false):False:=by
 rcases H with⟨c,rfl⟩|⟨ks,rfl⟩
 ·exact xC E F h
 ·unfold tO at h
  split at h <;> simp_all
  rename_i xs K
  simp only[il]at E F
  obtain⟨N,rfl,I,_⟩:=E
  obtain⟨O,e,J,_⟩:=F
  cases e
  exact wb I J h
theorem B8{D:EK}{k:T}: ∀{ks:List T},m9 D k ks=some none→ ∀x∈ks,tO D k x=some false
 | [],h,x,hx=>by simp at hx
 |y::I,h,x,hx=>by
  simp only[m9]at h
  split at h
  ·simp at h
  ·rename_i E
   simp only[Option.map_eq_some_iff]at h
   obtain⟨r,F,H⟩:=h
   cases r with
   |some j=>simp at H
   |none=>
    rcases List.mem_cons.1 hx with rfl|hx
    ·exact E
    ·exact B8 F x hx
  ·cases h
theorem PList.getV{w:World}{M:MSet}: ∀{ts:List T} {D:List Value},PList w M ts D→ ∀{j:Nat} {v:Value},D[j]? =some v→ ∃t,ts[j]? =some t∧PRel w M t v
 | [],D,h,j,v,E=>by grind [PList]
 |x::xs,D,h,j,v,E=>by
  simp only[PList]at h
  obtain⟨u,us,rfl,J,F⟩:=h
  cases j with
  |zero=>grind
  |succ j=>obtain⟨t,H,I⟩:=PList.getV F (j:=j) (v:=v) (by simpa using E);exact⟨t,by simpa using H,I⟩
theorem acb(h:iU B st w β M){sp:Sp}{k g:Nat}{ks vs:List T}(O:st.get sp k=⟨g,.map ks vs false⟩)(Ik:Array MapEntry)(F:Nat)(U:MapKept.Stamped Ik F)(D N:List T)(hk:PList w M D (Ik.toList.map (·.key)))(hv:PList w M N (Ik.toList.map (·.val))):
  iU B (st.up (sp,k,⟨g,.map D N false⟩)) (setBlock w (β sp k g).blk (.map Ik F)) β M∧Tr st w β M (st.up (sp,k,⟨g,.map D N false⟩)) (setBlock w (β sp k g).blk (.map Ik F)) β M:=by
 have V:st.gens sp k=g:=by show(st.get sp k).g=g;rw[O]
 have H:live (st.get sp k):=by rw[O];trivial
 have W:=h.obj sp k
 rw[O]at W
 unfold kM at W
 obtain⟨es,X,Y,_,h2,h3,Z⟩:=W
 dsimp only at Y Z
 have Xx:=qS Y
 have E:kG w M (setBlock w (β sp k g).blk (.map Ik F)) M:=by
  refine⟨fun b x u hu I=> ?_,fun b es cl hu I=> ?_,fun _ _ _ h=>h⟩
  ·by_cases J:b=(β sp k g).blk
   ·grind
   ·rw[nW (w:=w) (by rw[ko,if_neg (fun e=>J e.1)])];exact hu
  ·by_cases J:b=(β sp k g).blk
   ·simp_all
   ·grind [ko]
 have K:=Mh (M':=M) h sp k g (.map D N false) H (Nat.le_of_eq V) (.map Ik F) (fun _ _ I=>I) (fun _ _ _ I=>I) (by rw[V];exact E) (h.base H)
 rw[V,rV]at K
 refine K ?_
 exact⟨Ik,F,by rw[ko,if_pos ⟨rfl,Xx⟩],U,PList.mono E _ _ hk,PList.mono E _ _ hv,Z⟩
include kP h
theorem amY{d:Nat}{t kt et:TypeId}{m k x:Operand}{m' k' x':iD}{ek:EK}(ho:o.op= .mapUpdate t m k x)(hm:lJ m=some m')(hk:lJ k=some k')(hx:lJ x=some x')(ht:P.underlying t=some (.map kt et))(J:keyOf P kt=some ek)
  (D:(jk d st.rho (.mu ek m' k' x')).run st.get st.sh.length=some (.val v ups)):ln P B st a w β M o v ups:=by
 have vm:=kP m m' hm
 have vk:=kP k k' hk
 have vx:=kP x x' hx
 simp only[jk]at D
 split at D
 ·rename_i sp kk g e
  rw[e]at vm;simp only[il]at vm
  simp only[Q.run]at D
  split at D
  ·rename_i hg
   simp at hg
   obtain⟨hg,Mr⟩:=hg
   generalize he:st.get sp kk=en at*
   obtain⟨I,ob⟩:=en
   dsimp only at hg;subst hg
   split at D
   ·rename_i ks N heq
    dsimp only at heq;subst heq
    simp only[Q.run_bind]at D
    cases hz:(fz false iE (st.rho x')).run st.get st.sh.length with
    |none=>simp[hz]at D
    |some p=>
     obtain⟨t',us⟩:=p
     simp only[hz,Option.bind_some]at D
     split at D
     ·rename_i q U
      split at D
      ·simp[Q.run]at D
      ·rename_i hh
       simp at hh
       simp[Q.run]at D;obtain⟨rfl,rfl⟩:=D
       obtain⟨M',q1,q2,q3,q4,q5⟩:=Aa _ st iE (st.rho x') B st w β M _ t' us _ (Fz.refl st) h vx hz
       have q4':PRel w M' t' (a.eval x):=q4
       have Mt:(st.ups us).get sp kk=⟨I,.map ks N false⟩:=by rw[pM st us sp kk hh];exact he
       have AF:=q1.obj sp kk
       rw[Mt]at AF
       unfold kM at AF
       obtain⟨F,clock,e2,hst,Z,e4,_⟩:=AF
       dsimp only at e2
       have WE:il β st.gens w M' (st.rho k') (a.eval k):=il.mono (kf q3) (fun _ _ _ _=>rfl) (fun _ _=>Nat.le_refl _) _ _ vk
       have Wz:(Instr.checkKey false 10000 kt (a.eval k)).run P w= .ok () w:=Ac (P:=P) J WE Mr 9998 false
       obtain⟨_,qU⟩:=FC J
       have kp:PRel w M' (st.rho k') (a.eval k):=by
        generalize st.rho k'=tk at*
        cases tk <;> rcases qU with⟨c,rfl⟩|⟨cs,rfl⟩ <;> (try (cases c)) <;> simp[isKey,Fv]at Mr
        all_goals first
         |(simp only[il]at WE;simp only[PRel];exact WE;done)
         |skip
        rename_i xs
        simp only[il]at WE
        obtain⟨arr,e5,l5,s5⟩:=WE
        simp only[PRel]
        refine⟨arr,e5, ?_,s5⟩
        have: ∀(cs:List CK) (xs:List T) (N:List Value),pL cs xs=true→iq β st.gens w M' xs N→PList w M' xs N:=by
         intro cs
         induction cs with
         |nil=>intro xs N hc hv;cases xs <;> simp[pL]at hc;simpa only[iq,PList]using hv
         |cons c cs ih=>
          intro xs N hc hv
          cases xs with
          |nil=>simp[pL]at hc
          |cons x xs=>
           simp only[pL,Bool.and_eq_true]at hc
           simp only[iq]at hv;simp only[PList]
           obtain⟨u,us,rfl,w1,w2⟩:=hv
           refine⟨u,us,rfl, ?_,ih xs us hc.2 w2⟩
           cases c <;> cases x <;> simp[Fv]at hc <;> simp only[il]at w1 <;> simp only[PRel] <;> exact w1
        exact this _ _ _ Mr l5
       have run: ∀(E:Option (Nat×Value)) (Ik:Array MapEntry) (qe:Nat),(Instr.findKey kt (a.eval k) F.toList).run P w= .ok E w→
         (match E with
           |some (i,_)=>do
            let key ←Instr.keyThatStays (((F[i]?).map (fun e:MapEntry=>e.key)).getD (a.eval k)) (a.eval k)
            setObj (β sp kk I).blk (.map (F.modify i fun e=>{e with key,val:=a.eval x}) clock)
           |none=>setObj (β sp kk I).blk (.map (F.push {key:=a.eval k,val:=a.eval x,born:=clock}) (clock+1))).run P w= .ok () (setBlock w (β sp kk I).blk (.map Ik qe))→
         (execOp a.eval o).run P w= .ok .skip (setBlock w (β sp kk I).blk (.map Ik qe)):=by
        intro E Ik qe xA Il
        have:(Instr.mapUpdate t (.map (some (β sp kk I).blk)) (a.eval k) (a.eval x)).run P w= .ok () (setBlock w (β sp kk I).blk (.map Ik qe)):=by
         unfold Instr.mapUpdate
         simp only[Sem.run_bind,run_underlying ht,Result.andThen_ok]
         have AH:(getObj (β sp kk I).blk).run P w= .ok (.map F clock) w:=by simp[getObj,Sem.run,e2]
         simp only[AH,Result.andThen_ok,Sem.run_bind,Wz,xA]
         cases E with
         |none=>exact Il
         |some p=>exact Il
        simp[execOp,ho,vm.2,this]
       have Il: ∀(Ik:Array MapEntry) (c':Nat),(setObj (β sp kk I).blk (.map Ik c')).run P w= .ok () (setBlock w (β sp kk I).blk (.map Ik c')):=by
        intro Ik c';simp[setObj,Sem.run,e2,setBlock]
       unfold p6 at U
       split at U
       ·rename_i i hf
        simp at U;subst U
        obtain⟨E,r1,e,O,r3⟩:=sS (P:=P) J WE F.toList ks _ Z hf
        obtain⟨kx,V,H⟩:=Ij hf
        obtain⟨kcv,K,kc2⟩:=Z.get V
        rw[List.getElem?_map,O]at K
        simp at K
        have hsb:=FF (β:=β) (st:=st) qU WE (PRel.toV β st.gens _ _ kc2) H 9999
        have hei:F[i]? =some e:=by simpa using O
        simp only[Nat.zero_add]at r3
        have hkt:(Instr.keyThatStays (((F[i]?).map (fun e:MapEntry=>e.key)).getD (a.eval k)) (a.eval k)).run P w= .ok (a.eval k) w:=by
         rw[hei];simp only[Option.map_some,Option.getD_some,K]
         unfold Instr.keyThatStays
         rw[if_pos hsb];rfl
        obtain⟨W,X⟩:=acb q1 Mt (F.modify i fun e=>{e with key:=a.eval k,val:=a.eval x}) clock (MapKept.stamped_modify hst i _ (fun _ _=>rfl) (fun e' _ WA=>by
         have hh:e'=e:=by rw[hei]at WA;exact(Option.some.inj WA).symm
         subst hh
         exact(SQ qU WE (PRel.toV β st.gens _ _ kc2) H).trans K.symm)) (ks.set i (st.rho k')) (N.set i t') (by
         have:=PList.set i Z kp
         have e5:(F.modify i fun e=>{e with key:=a.eval k,val:=a.eval x}).toList.map (·.key)=(F.toList.map (·.key)).set i (a.eval k):=by
          apply List.ext_getElem?;intro j
          rw[Array.toList_modify,List.getElem?_map,List.getElem?_modify,List.getElem?_set,List.getElem?_map]
          by_cases Y:i=j
          ·subst Y;rw[O];simp;exact(List.getElem?_eq_some_iff.1 O).1
          ·simp[Y]
         rw[e5];exact this) (by
         have:=PList.set i e4 q4'
         have e5:(F.modify i fun e=>{e with key:=a.eval k,val:=a.eval x}).toList.map (·.val)=(F.toList.map (·.val)).set i (a.eval x):=by
          apply List.ext_getElem?;intro j
          rw[Array.toList_modify,List.getElem?_map,List.getElem?_modify,List.getElem?_set,List.getElem?_map]
          by_cases Y:i=j
          ·subst Y;rw[O];simp;exact(List.getElem?_eq_some_iff.1 O).1
          ·simp[Y]
         rw[e5];exact this)
        refine⟨.skip,undef,_,β,M',run E _ clock r1 ?_,.inr ⟨rfl,rfl⟩,by rw[kH];exact W,by rw[kH];exact(Tr.fz q2 q3).trans X (Nat.le_refl _),by rw[kS];exact Nat.le_refl _,by simp[il,iI,undef,iq]⟩
        subst r3
        simp only[Sem.run_bind,hkt,Result.andThen_ok]
        exact Il _ _
       ·rename_i hf
        simp at U;subst U
        obtain⟨E,r1,O⟩:=sS (P:=P) J WE F.toList ks _ Z hf
        have:E=none:=O
        subst this
        obtain⟨W,X⟩:=acb q1 Mt (F.push {key:=a.eval k,val:=a.eval x,born:=clock}) (clock+1) (MapKept.stamped_push hst (fun y hy WA=>by
         obtain⟨j,Y⟩:=List.getElem?_of_mem hy
         obtain⟨kx,V,H⟩:=Z.getV (j:=j) (v:=y.key) (by rw[List.getElem?_map,Y];rfl)
         rw[WA]at H
         exact OK qU WE (PRel.toV β st.gens _ _ H) (B8 hf _ (List.mem_of_getElem? V)))) (ks++ [st.rho k']) (N++ [t']) (by
         simp only[Array.toList_push,List.map_append,List.map_cons,List.map_nil]
         exact PList.append Z (by simp only[PList];exact⟨_,_,rfl,kp,rfl⟩)) (by
         simp only[Array.toList_push,List.map_append,List.map_cons,List.map_nil]
         exact PList.append e4 (by simp only[PList];exact⟨_,_,rfl,q4',rfl⟩))
        exact⟨.skip,undef,_,β,M',run none _ (clock+1) r1 (Il _ _),.inr ⟨rfl,rfl⟩,by rw[kH];exact W,by rw[kH];exact(Tr.fz q2 q3).trans X (Nat.le_refl _),by rw[kS];exact Nat.le_refl _,by simp[il,iI,undef,iq]⟩
       ·cases U
     ·simp[Q.run]at D
   ·simp[Q.run]at D
  ·simp[Q.run]at D
 ·simp[Q.run]at D
end
end Go.Ev
namespace Go.Ev
open Go
theorem El(D:Nat): ∀(r c:Nat),c≤D+(D+768)/4→Builtin.growBy D r c≤D+(D+768)/4
 |0,c,h=>by simpa[Builtin.growBy]using h
 |r+1,c,h=>by
  simp only[Builtin.growBy]
  split
  ·exact h
  ·exact El D r _ (by omega)
theorem Xy(FH WC:Nat)(h:WC<FH):Builtin.nextslicecap FH WC≤2*FH+192:=by
 grind [Builtin.nextslicecap,El]
theorem OL{FH WC bytes:Nat}(h:WC<FH)(D:FH*bytes≤1099511627776)(E:bytes≠0):Builtin.nextslicecap FH WC*bytes≤281474976710656:=by
 have F:=Nat.mul_le_mul_right bytes (Xy FH WC h)
 have H:bytes≤FH*bytes:=Nat.le_mul_of_pos_left bytes (by omega)
 grind
section
variable{P:Program}{B:lL}{st:St}{a:Act}{w:World}{β:iJ}{M:MSet}{o:Oper}{v:T}{ups:List Up}
theorem DA(h:iU B st w β M){sz nx n:Nat}{x:T}{cx:Value}{xs:List T}(K:il β st.gens w M x cx)(D:(jP sz x).run st.get nx=some (n,xs)):
  ∃news:List Value,(∀w':World,w'.heap=w.heap→(Builtin.lenOf cx).run P w'= .ok n w'∧(Builtin.firstCells sz n cx).run P w'= .ok news.toArray w')∧PList w M xs news∧xs.all single=true∧xs.length=n*sz:=by
 unfold jP at D
 split at D
 ·simp[Q.run]at D;obtain⟨rfl,rfl⟩:=D
  simp_all[il,Builtin.lenOf,Builtin.firstCells,PList]
 ·rename_i cs len ex
  split at D
  ·rename_i U
   simp[Q.run]at D;obtain⟨rfl,rfl⟩:=D
   simp only[il,PRel]at K
   obtain⟨blk,off,V,sp,rfl,W,h2,h5,X⟩:=K
   obtain⟨Y,N,e2,e3,e4⟩:=PCells.load (P:=P) X
   refine⟨Y,fun w' hw=>⟨by simp[Builtin.lenOf], ?_⟩,e3,e4,U⟩
   have:=run_loadCells_list (P:=P) w' ⟨blk,off,sp⟩ Y (fun j u F=>by
    rcases h5 with h5|h5
    ·grind [World.cell?,kZ]
    ·exfalso
     have hz:len=0:=by omega
     have h0:Y= []:=List.length_eq_zero_iff.1 (by rw[N,U,hz,Nat.zero_mul])
     subst h0;simp at F)
   rw[N,U]at this
   simp[Builtin.firstCells,this]
  ·simp[Q.run]at D
 ·rename_i sp k g off len H
  split at D
  ·rename_i I
   subst I
   simp only[Q.run]at D
   split at D
   ·rename_i hg
    have AF:=h.obj sp k
    generalize he:st.get sp k=en at*
    obtain⟨O,ob⟩:=en
    dsimp only at hg;subst hg
    cases ob with
    |none=>simp[Q.run]at D
    |map _ _ _=>simp[Q.run]at D
    |cells cs wm bx=>
     cases bx with
     |true=>simp[Q.run]at D
     |false=>
      dsimp only at D
      split at D
      ·rename_i hle
       simp[Q.run]at D;obtain⟨rfl,rfl⟩:=D
       unfold kM at AF
       obtain⟨c,el,fz,W,h2,X,h4,h5,h6,h7,h8⟩:=AF
       dsimp only at W h2 X h5
       simp only[il]at K
       obtain⟨q1,V,rfl,q2,q3⟩:=K
       have OI:=PList.take (len*H) (PList.drop off h5)
       rw[List.drop_take,List.drop_drop,List.take_take]at OI
       have Z:min (len*H) (cs.length-off)=len*H:=by omega
       rw[Z]at OI
       have E:((cs.drop off).take (len*H)).length=len*H:=by simp;omega
       refine⟨(c.toList.drop ((β sp k O).off+off)).take (len*H),fun w' hw=>⟨by simp[Builtin.lenOf], ?_⟩,OI,nw h7 _ _,E⟩
       have yB:=PList.length _ _ OI
       rw[E]at yB
       have:=run_loadCells_list (P:=P) w' ⟨(β sp k O).blk,(β sp k O).off+off,none⟩ ((c.toList.drop ((β sp k O).off+off)).take (len*H)) (fun j u F=>by
        rw[kZ]
        rw[List.getElem?_take]at F
        split at F
        ·rw[List.getElem?_drop]at F
         unfold World.cell?;rw[hw,W];simpa using F
        ·cases F)
       rw[←yB]at this
       simp[Builtin.firstCells,this]
      ·simp[Q.run]at D
   ·simp[Q.run]at D
  ·simp[Q.run]at D
 ·rename_i l
  split at D
  ·rename_i I
   subst I
   simp[Q.run]at D;obtain⟨rfl,rfl⟩:=D
   obtain⟨J,rfl,rfl⟩:=K.str
   refine⟨J.data.toList.map fun b=> .int .u8 b.toNat,fun w' _=>⟨by simp[Builtin.lenOf,ml], ?_⟩, ?_, ?_,by simp⟩
   ·have N:(J.extract 0 J.size).data=J.data:=by
     apply Array.ext'
     rw[ByteArray.data_extract,Array.toList_extract,List.extract_eq_take_drop]
     rw[List.drop_zero]
     exact List.take_of_length_le (by show J.data.toList.length≤J.data.size-0;simp)
    simp only[Builtin.firstCells,ml,N,Sem.run_pure]
    congr 1
    apply Array.ext';simp
   ·unfold bytesN
    rw[List.map_map]
    generalize J.data.toList=l
    induction l with
    |nil=>simp[PList]
    |cons b l ih=>simp only[List.map_cons,PList];exact⟨_,_,rfl,by simp[PRel],ih⟩
   ·rw[List.all_eq_true];intro x hx;simp at hx;obtain⟨_,_,rfl⟩:=hx;rfl
  ·simp[Q.run]at D
 ·simp[Q.run]at D
theorem Im{t u ty e:TypeId}{E:TypeDesc}{i:TypeInfo}{z:Value}(K:P.underlying t=some (.slice e))(N:P.underlying u=some E)(F:E= .string∨ ∃J,E= .slice J)(hi:P.info? e=some i)(O:i.zero=some z)
  {base:Option Addr} {kR nk n:Nat} {cx:Value} {xD news:List Value} (U:(Builtin.lenOf cx).run P w= .ok n w) (Em:(Builtin.firstCells i.size n cx).run P w.drew= .ok news.toArray w.drew) (D:(Builtin.firstCells i.size kR (.slice base kR nk)).run P w.drew= .ok xD.toArray w.drew)
  (V:nk<kR+n) (W:(kR+n)*i.bytes≤1099511627776) (X:i.bytes≠0):
  (Builtin.append_ #[t,u] ty #[.slice base kR nk,cx]).run P w= .ok (.slice (some ⟨w.heap.size,0,none⟩) (kR+n) (grownCap w (kR+n) nk e))
     (w.drew.alloc (.cells (xD.toArray++news.toArray++Builtin.zeroCells z.cells (grownCap w (kR+n) nk e-(kR+n))) e)):=by
 have H: ¬(kR+n≤nk):=by omega
 have Y:kR+n≤(kR+n)*i.bytes:=Nat.le_mul_of_pos_right _ (by omega)
 have B9: ¬(9223372036854775807<((kR:Int)+(n:Int))):=by omega
 have I: ¬(281474976710656<Builtin.nextslicecap (kR+n) nk*i.bytes):=by have:=OL V W X;omega
 rcases F with rfl|⟨J,rfl⟩ <;>
 ·simp[Builtin.append_,run_underlying K,run_underlying N,sizeOf,typeInfo,zeroValue,hi,O,U,H,B9,I,Question.forced,Em,D,newRow,grownCap]
  grind
theorem uq{t u ty e:TypeId}{E:TypeDesc}{i:TypeInfo}(H:P.underlying t=some (.slice e))(I:P.underlying u=some E)(F:E= .string∨ ∃J,E= .slice J)(hi:P.info? e=some i)
  {base:Option Addr} {kR nk n:Nat} {cx:Value} {news:List Value} {w':World} (K:(Builtin.lenOf cx).run P w= .ok n w) (Em:(Builtin.firstCells i.size n cx).run P w= .ok news.toArray w)
  (N:kR+n≤nk) (D:match base with|some O=>(storeCells (O.add (kR*i.size)) news).run P w= .ok () w'|none=>w'=w):
  (Builtin.append_ #[t,u] ty #[.slice base kR nk,cx]).run P w= .ok (.slice base (kR+n) nk) w':=by
 rcases F with rfl|⟨J,rfl⟩ <;>
 ·cases base with
  |none=>
   dsimp only at D;subst D
   simp[Builtin.append_,run_underlying H,run_underlying I,sizeOf,typeInfo,hi,K,N,Em]
  |some O=>
   dsimp only at D
   simp[Builtin.append_,run_underlying H,run_underlying I,sizeOf,typeInfo,hi,K,N,Em,D]
theorem Xz{bx:Bool}(h:iU B st w β M)(el:TypeId)(c:Array Value)(cs:List T)(D:Nat)(sp:Sp)(k g:Nat)(F:st.gens sp k<g)
  (H:PList w M cs (c.toList.take cs.length)) (hs:cs.all single=true) (E:cs.length≤c.size) (Ih:D≤cs.length):
  iU B (st.up (sp,k,⟨g,.cells cs D bx⟩)) (w.alloc (.cells c el)) (nv β sp k g ⟨w.heap.size,0,c.size⟩) (fun b x=>M b x∨b=w.heap.size)∧
  Tr st w β M (st.up (sp,k,⟨g,.cells cs D bx⟩)) (w.alloc (.cells c el)) (nv β sp k g ⟨w.heap.size,0,c.size⟩) (fun b x=>M b x∨b=w.heap.size):=by
 refine SC h sp k g F (.cells c el) c.size (.cells cs D bx) ?_
 unfold kM
 simp only[jv]
 refine⟨c,el,(0,0),by rw[heap_alloc,if_pos rfl],by omega,E,rfl, ?_,fun j _ _=>Or.inr (by trivial),hs,Ih⟩
 simp only[List.drop_zero]
 exact oY.ofP (PList.mono (sP w M _) _ _ H)
variable(kP:pC β st.gens w M st.rho a.eval)(h:iU B st w β M)
include kP h
theorem aeu{d:Nat}{sh nm:Bool}{c:Call}{t u e:TypeId}{ud:TypeDesc}{i:TypeInfo}{z:Value}{s x:Operand}{s' x':iD}(ho:o.op= .call c)(hb:c.callee= .builtin .append)(sH:c.argTypes.toList= [t,u])(has:c.args.toList= [s,x])
  (ht:P.underlying t=some (.slice e)) (I:P.underlying u=some ud) (Y:ud= .string∨ ∃e',ud= .slice e') (hi:P.info? e=some i) (hz:i.zero=some z) (hsz:i.size=z.cells.size) (h0:i.size≠0) (hby:i.bytes≠0) (hs:lJ s=some s') (hx:lJ x=some x')
  (E:(jk d st.rho (.app i.size i.bytes s' x' sh nm)).run st.get st.sh.length=some (.val v ups)):ln P B st a w β M o v ups:=by
 have W:=kP s s' hs
 have vx:=kP x x' hx
 have mV:c.argTypes= #[t,u]:=by apply Array.ext';simp[sH]
 have O: ∀cv w',(Builtin.append_ #[t,u] o.type #[a.eval s,a.eval x]).run P w= .ok cv w'→(execOp a.eval o).run P w= .ok (.value cv) w':=by
  intro cv w' hr
  rw[kQ ho hb,Xq has,mV]
  simp[builtin,hr]
 simp only[jk,rP,Q.run_bind]at E
 cases nQ:(jP i.size (st.rho x')).run st.get st.sh.length with
 |none=>grind
 |some p=>
  obtain⟨n,xs⟩:=p
  simp only[nQ,Option.bind_some]at E
  obtain⟨news,xE,n1,n2,n3⟩:=DA (P:=P) h vx nQ
  have En:news.length=n*i.size:=by rw[←PList.length _ _ n1,n3]
  by_cases hn0:n=0
  ·rw[if_pos hn0]at E
   subst hn0
   have Em:news= []:=by apply List.eq_nil_of_length_eq_zero;simpa using En
   subst Em
   have same: ∀base kR nk,a.eval s= .slice base kR nk→kR≤nk→ln P B st a w β M o (st.rho s') []:=by
    intro base kR nk X hle
    refine iL h (cv:= .slice base kR nk) ?_ (by rw[←X];exact W)
    have:=uq (P:=P) (w:=w) (w':=w) (t:=t) (u:=u) (ty:=o.type) (base:=base) (kR:=kR) (nk:=nk) (cx:=a.eval x) (n:=0) (news:= []) ht I Y hi (xE w rfl).1 (xE w rfl).2 (by omega) (by cases base <;> simp[storeCells])
    exact O _ _ (by rw[X];exact this)
   grind [Q.run,il,PRel]
  ·rw[if_neg hn0]at E
   have hz0:z.cells.size≠0:=by omega
   have grow: ∀(bx:Bool) (base:Option Addr) (kR nk:Nat) (xD:List Value) (Z:List T) (sp:Sp) (k g wm:Nat),a.eval s= .slice base kR nk→nk<kR+n→(kR+n)*i.bytes≤1099511627776→PList w M Z xD→Z.all single=true→Z.length=kR*i.size→
     (Builtin.firstCells i.size kR (.slice base kR nk)).run P w.drew= .ok xD.toArray w.drew→st.gens sp k<g→wm≤Z.length→ln P B st a w β M o (.isl sp k g 0 (kR+n) i.size) [(sp,k,⟨g,.cells (Z++xs) wm bx⟩)]:=by
    intro bx base kR nk xD Z sp k g wm X hlt K Ag ho2 ho3 hfc hg Ih
    have hr:=Im (P:=P) (w:=w) (t:=t) (u:=u) (ty:=o.type) (base:=base) (kR:=kR) (nk:=nk) (cx:=a.eval x) (n:=n) (xD:=xD) (news:=news) ht I Y hi hz (xE w rfl).1 (xE w.drew rfl).2 hfc hlt K hby
    obtain⟨hd1,hd2⟩:=FA h (w.drawn+1)
    have hol:xD.length=kR*i.size:=by rw[←PList.length _ _ Ag,ho3]
    have B2:=grownCap_ge w (kR+n) nk e
    have hcs:(xD.toArray++news.toArray++Builtin.zeroCells z.cells (grownCap w (kR+n) nk e-(kR+n))).size=grownCap w (kR+n) nk e*i.size:=by
     rw[Array.size_append,Array.size_append,size_zeroCells]
     simp only[List.size_toArray,hol,En,←hsz]
     rw[←Nat.add_mul,←Nat.add_mul];congr 1;omega
    have F:(Z++xs).length=xD.length+news.length:=by simp[ho3,n3,hol,En]
    obtain⟨r1,r2⟩:=Xz (bx:=bx) hd1 e (xD.toArray++news.toArray++Builtin.zeroCells z.cells (grownCap w (kR+n) nk e-(kR+n))) (Z++xs) wm sp k g hg (by
     have:(xD.toArray++news.toArray++Builtin.zeroCells z.cells (grownCap w (kR+n) nk e-(kR+n))).toList.take (Z++xs).length=xD++news:=by
      rw[F]
      simp only[Array.toList_append,List.toList_toArray]
      rw[List.take_append_of_le_length (by simp)]
      exact List.take_of_length_le (by simp)
     rw[this]
     exact PList.mono hd2.keep _ _ (PList.append Ag n1)) (by simp only[List.all_append,Bool.and_eq_true];exact⟨ho2,n2⟩) (by
     rw[hcs,F,hol,En,←Nat.add_mul];exact Nat.mul_le_mul_right _ B2) (by simp;omega)
    refine⟨_,_,_,_,_,O _ _ (by rw[X];exact hr),.inl rfl,r1,hd2.trans r2 (Nat.le_refl _), ?_, ?_⟩
    ·show w.heap.size≤(w.heap.push _).size;simp
    ·simp only[il]
     refine⟨by simp[St.ups,lb],grownCap w (kR+n) nk e, ?_,B2, ?_⟩
     ·rw[jv]
     ·rw[jv,hcs];exact Nat.le_of_eq (Nat.zero_add _)
   split at E
   ·rename_i X
    rw[X]at W;simp only[il]at W
    split at E
    ·rename_i K
     unfold roomy at K
     obtain⟨sp,k,g,rfl,rfl,hg,_⟩:=oE E
     have:=grow (nm&& !sh) none 0 0 [] [] sp k g 0 W (by omega) (by simpa using K) (by simp[PList]) rfl (by simp) (by simp[Builtin.firstCells]) hg (Nat.zero_le _)
     simpa using this
    ·simp[Q.run]at E
   ·rename_i cs len X
    rw[X]at W;simp only[il,PRel]at W
    obtain⟨blk,off,H,ku,e1,e2,e3,e5,e4⟩:=W
    have:=e3 trivial;subst this
    split at E
    ·rename_i K
     simp at K
     unfold roomy at K
     obtain⟨sp,k,g,rfl,rfl,hg,_⟩:=oE E
     obtain⟨ol,f1,f2,f3,f4⟩:=PCells.load (P:=P) e4
     refine grow false _ _ _ ol cs sp k g 0 e1 (by omega) K.2 f3 f4 K.1 ?_ hg (Nat.zero_le _)
     have:=run_loadCells_list (P:=P) w.drew ⟨blk,off,ku⟩ ol (fun j u I=>by
      rcases e5 with e5|e5
      ·subst e5
       rw[kZ];have:=f2 j u I;unfold World.cell? at this ⊢; exact this
      ·exfalso
       have h0:ol= []:=List.length_eq_zero_iff.1 (by rw[f1,K.1,e5,Nat.zero_mul])
       subst h0;simp at I)
     rw[f1,K.1]at this
     simp[Builtin.firstCells,this]
    ·simp[Q.run]at E
   ·rename_i sp k g off len sz X
    rw[X]at W;simp only[il]at W
    obtain⟨q1,H,e1,e2,e3⟩:=W
    split at E
    ·rename_i K
     simp at K
     unfold roomy at K
     obtain⟨⟨rfl,rfl⟩,K⟩:=K
     simp only[Q.run]at E
     split at E
     ·rename_i hg
      have AF:=h.obj sp k
      generalize he:st.get sp k=en at*
      obtain⟨D,ob⟩:=en
      dsimp only at hg;subst hg
      cases ob with
      |none=>simp[Q.run]at E
      |map _ _ _=>simp[Q.run]at E
      |cells cs wm bx=>
       cases bx with
       |true=>simp[Q.run]at E
       |false=>
        dsimp only at E
        split at E
        ·rename_i F
         simp[Q.run]at E;obtain⟨rfl,rfl⟩:=E
         unfold kM at AF
         obtain⟨N,el,fz,U,h2,h3,h4,h5,h6,h7,h8⟩:=AF
         dsimp only at U h2 h3 h4 h5 h6
         subst h4
         have Eo:st.gens sp k=D:=by show(st.get sp k).g=D;rw[he]
         by_cases Ky:len+n≤H
         ·have SR:(len+n)*i.size≤H*i.size:=Nat.mul_le_mul_right _ Ky
          rw[Nat.add_mul]at SR
          have SO:=iq.one (PList.toV β st.gens _ _ n1) n2
          have J:=run_storeCells_at P (β sp k D).blk ((β sp k D).off+len*i.size) el news 0 N w U (by omega) SO
          rw[pq U]at J
          simp only[Nat.add_zero]at J
          rw[B7 _ _ _ (by simp;omega)]at J
          have hr:=uq (P:=P) (w:=w) (t:=t) (u:=u) (ty:=o.type) (base:=some ⟨(β sp k D).blk,(β sp k D).off+0,none⟩) (kR:=len) (nk:=H) (cx:=a.eval x) (n:=n) (news:=news) ht I Y hi (xE w rfl).1 (xE w rfl).2 Ky (by
           dsimp only;rw[kZ];simpa using J)
          have V:=xz h he (D+1) (Nat.le_succ _) U (len*i.size) news (cs++xs) (by omega) (by omega) (by simp;omega) (by simp[n3];omega) (by simp only[List.all_append,Bool.and_eq_true];exact⟨h7,n2⟩) (by
           show PList w M _ _
           have h5:PList w M cs _:=h5
           have:(splice (N.toList.drop (β sp k D).off) (len*i.size) news).take (cs++xs).length=(N.toList.drop (β sp k D).off).take cs.length++news:=by
            rw[←B7 _ _ _ (by simp;omega),F,List.take_append_of_le_length (by simp[n3,En];omega)]
            exact List.take_of_length_le (by simp[n3,En];omega)
           rw[this]
           exact PList.append h5 n1)
          refine⟨_,_,_,_,_,O _ _ (by rw[e1];exact hr),.inl rfl,V.1,V.2,by rw[kS];exact Nat.le_refl _, ?_⟩
          simp only[il]
          refine⟨by simp[St.ups,lb],H,by rw[jv],Ky,by rw[jv];exact e3⟩
         ·have OI:PList w M cs ((N.toList.drop (β sp k D).off).take cs.length):=h5
          refine grow false _ len H ((N.toList.drop (β sp k D).off).take cs.length) cs sp k (D+1) wm e1 (by omega) K OI h7 F.symm ?_ (by rw[Eo];omega) h8
          have yB:=PList.length _ _ OI
          have:=run_loadCells_list (P:=P) w.drew ⟨(β sp k D).blk,(β sp k D).off+0,none⟩ ((N.toList.drop (β sp k D).off).take cs.length) (fun j u I=>by
           rw[kZ]
           rw[List.getElem?_take]at I
           split at I
           ·rw[List.getElem?_drop]at I
            unfold World.cell?
            show(match w.heap[(β sp k D).blk]? with|some (.cells c _ _)=>if(none:Option Nat).isSome then none else c[(β sp k D).off+0+j]? |_=>none)=some u
            rw[U];simpa using I
           ·cases I)
          rw[←yB]at this
          simp only[Builtin.firstCells]
          rw[F]
          exact this
        ·split at E
         ·rename_i WG
          simp only[Bool.and_eq_true,decide_eq_true_eq]at WG
          obtain⟨⟨⟨rfl,rfl⟩,F⟩,AI⟩:=WG
          simp[Q.run]at E;obtain⟨rfl,rfl⟩:=E
          unfold kM at AF
          obtain⟨N,el,fz,U,h2,h3,h4,h5,h6,h7,h8⟩:=AF
          dsimp only at U h2 h3 h4 h5 h6
          subst h4
          have Eo:st.gens sp k=D:=by show(st.get sp k).g=D;rw[he]
          have OI:PList w M cs ((N.toList.drop (β sp k D).off).take cs.length):=h5
          have h5t:PList w M (cs.take (len*i.size)) ((N.toList.drop (β sp k D).off).take (len*i.size)):=by
           have:=PList.take (len*i.size) OI
           rwa [List.take_take,Nat.min_eq_left (by omega)]at this
          have WH:(cs.take (len*i.size)).length=len*i.size:=by rw[List.length_take];omega
          have sH:(cs.take (len*i.size)).all single=true:=List.all_eq_true.2 fun x hx=>List.all_eq_true.1 h7 x (List.mem_of_mem_take hx)
          by_cases Ky:len+n≤H
          ·have SR:(len+n)*i.size≤H*i.size:=Nat.mul_le_mul_right _ Ky
           rw[Nat.add_mul]at SR
           have SO:=iq.one (PList.toV β st.gens _ _ n1) n2
           have J:=run_storeCells_at P (β sp k D).blk ((β sp k D).off+len*i.size) el news 0 N w U (by omega) SO
           rw[pq U]at J
           simp only[Nat.add_zero]at J
           rw[B7 _ _ _ (by simp;omega)]at J
           have hr:=uq (P:=P) (w:=w) (t:=t) (u:=u) (ty:=o.type) (base:=some ⟨(β sp k D).blk,(β sp k D).off+0,none⟩) (kR:=len) (nk:=H) (cx:=a.eval x) (n:=n) (news:=news) ht I Y hi (xE w rfl).1 (xE w rfl).2 Ky (by
            dsimp only;rw[kZ];simpa using J)
           have V:=xz h he (D+1) (Nat.le_succ _) U (len*i.size) news (cs.take (len*i.size)++xs) AI (by omega) (by rw[List.length_append,WH];omega) (by rw[List.length_append,WH,n3];omega) (by simp only[List.all_append,Bool.and_eq_true];exact⟨sH,n2⟩) (by
            show PList w M _ _
            have:(splice (N.toList.drop (β sp k D).off) (len*i.size) news).take (cs.take (len*i.size)++xs).length=(N.toList.drop (β sp k D).off).take (len*i.size)++news:=by
             have hl9:len*i.size+news.length≤(N.toList.drop (β sp k D).off).length:=by simp;omega
             rw[←B7 _ _ _ (by simp;omega),List.length_append,WH,n3,←En]
             rw[List.take_append_of_le_length (by simp;omega)]
             exact List.take_of_length_le (by simp;omega)
            rw[this]
            exact PList.append h5t n1)
           refine⟨_,_,_,_,_,O _ _ (by rw[e1];exact hr),.inl rfl,V.1,V.2,by rw[kS];exact Nat.le_refl _, ?_⟩
           simp only[il]
           refine⟨by simp[St.ups,lb],H,by rw[jv],Ky,by rw[jv];exact e3⟩
          ·refine grow false _ len H ((N.toList.drop (β sp k D).off).take (len*i.size)) (cs.take (len*i.size)) sp k (D+1) wm e1 (by omega) K h5t sH WH ?_ (by rw[Eo];omega) (by rw[WH];exact AI)
           have yB:=PList.length _ _ h5t
           rw[WH]at yB
           have:=run_loadCells_list (P:=P) w.drew ⟨(β sp k D).blk,(β sp k D).off+0,none⟩ ((N.toList.drop (β sp k D).off).take (len*i.size)) (fun j u I=>by
            rw[kZ]
            rw[List.getElem?_take]at I
            split at I
            ·rw[List.getElem?_drop]at I
             unfold World.cell?
             show(match w.heap[(β sp k D).blk]? with|some (.cells c _ _)=>if(none:Option Nat).isSome then none else c[(β sp k D).off+0+j]? |_=>none)=some u
             rw[U];simpa using I
            ·cases I)
           rw[←yB]at this
           simp only[Builtin.firstCells]
           exact this
         ·simp[Q.run]at E
     ·simp[Q.run]at E
    ·simp[Q.run]at E
   ·simp[Q.run]at E
end
end Go.Ev
namespace Go.Ev
open Go
section
variable{P:Program}{B:lL}{st:St}{a:Act}{w:World}{β:iJ}{M:MSet}{o:Oper}{v:T}{ups:List Up}
theorem qf{x:Option T}{h:Sp→Nat→ib}{D:Nat}(E:(Ev.val x).run h D=some (.val v ups)):x=some v∧ups= []:=by
 cases x with
 |none=>simp[Ev.val,Q.run]at E
 |some y=>grind [Ev.val,Q.run]
theorem XA(kP:pC β st.gens w M st.rho a.eval)(h:iU B st w β M){c:Call}(E:o.op= .call c){sh:Nat}{J3:lH}{d:Nat}(D:rS P sh c=some J3)
  (F:(jk d st.rho J3).run st.get st.sh.length=some (.val v ups)):ln P B st a w β M o v ups:=by
 unfold rS at D
 split at D
 ·grind [Option.map_eq_some_iff,jk,Q.run]
 ·grind [jk,Q.run]
 ·grind [jk,Q.run,Xr,Xs,Xt,Xu]
 ·rename_i H
  split at D
  ·rename_i t u x y I J
   split at D
   ·grind [aeu]
   ·cases D
  ·cases D
 ·grind [Option.map_eq_some_iff,ab7]
 ·grind [Option.map_eq_some_iff,ab7]
 ·cases D
theorem am1(kP:pC β st.gens w M st.rho a.eval)(h:iU B st w β M){sh:Nat}{J3:lH}{d:Nat}(D:jL P sh o.op=some J3)
  (E:(jk d st.rho J3).run st.get st.sh.length=some (.val v ups)):ln P B st a w β M o v ups:=by
 cases DB:o.op with
 |move x=>
  grind [jL,Option.map_eq_some_iff,jk,Q.run,ab5]
 |assign x=>
  rw[DB]at D;simp only[jL,Option.map_eq_some_iff]at D
  obtain⟨y,F,rfl⟩:=D
  simp[jk,Q.run]at E;obtain⟨rfl,rfl⟩:=E
  simp_all[ab5]
 |pick c x y=>
  grind [jL,jk,Q.run,Xl]
 |alloc t=>
  grind [jL,SL]
 |box t x=>
  grind [jL,Option.map_eq_some_iff,aeo]
 |build t X=>
  grind [jL,Option.map_eq_some_iff,SI]
 |buildSlice t len X=>
  grind [jL,aer]
 |load t x=>
  grind [jL,amJ]
 |store t x y=>
  grind [jL,amU]
 |nilCheck x=>
  grind [jL,Option.map_eq_some_iff,aeb]
 |binOp op t x y t'=>
  rw[DB]at D;simp only[jL]at D
  split at D
  ·rename_i x' y' F I
   split at D
   ·rename_i N
    simp at D;subst D
    obtain⟨e1,rfl⟩:=qf E
    simp only[Option.map_eq_some_iff]at e1
    obtain⟨r,J,rfl⟩:=e1
    exact Mq (neg:=false) kP h DB F I (by have:=sR N;simp[BX,this]) (by simp) J
   ·rename_i N
    simp at D;subst D
    obtain⟨e1,rfl⟩:=qf E
    simp only[Option.map_eq_some_iff]at e1
    obtain⟨r,J,rfl⟩:=e1
    exact Mq (neg:=true) kP h DB F I (by have:=sR N;simp[BX,this]) (by simp) J
   ·simp at D;subst D
    obtain⟨e1,rfl⟩:=qf E
    grind [aec]
   ·rename_i N
    simp only[Option.map_eq_some_iff]at D
    obtain⟨k,H,rfl⟩:=D
    obtain⟨e1,rfl⟩:=qf E
    simp only[Option.map_eq_some_iff]at e1
    obtain⟨r,J,rfl⟩:=e1
    refine Mq (neg:=false) kP h DB F I H ?_ J
    have O:=qc H
    grind
   ·rename_i N
    simp only[Option.map_eq_some_iff]at D
    obtain⟨k,H,rfl⟩:=D
    obtain⟨e1,rfl⟩:=qf E
    simp only[Option.map_eq_some_iff]at e1
    obtain⟨r,J,rfl⟩:=e1
    refine Mq (neg:=true) kP h DB F I H ?_ J
    have O:=qc H
    grind
   ·cases D
  ·cases D
 |unOp op t x=>
  rw[DB]at D;simp only[jL,Option.map_eq_some_iff]at D
  obtain⟨y,F,rfl⟩:=D
  obtain⟨e1,rfl⟩:=qf E
  grind [amI]
 |convert s t x=>
  grind [jL,jk,Q.run,aee]
 |makeFunc Y first Z=>
  rw[DB]at D
  cases Y <;> simp only[jL]at D <;> try (cases D;done)
  grind [jk,Q.run,Xo]
 |makeMap t r=>
  rw[DB]at D
  cases r <;> simp only[jL]at D
  ·grind [SM]
  ·cases D
 |makeSlice t l c=>
  grind [jL,Xv]
 |slice t x l hh m=>
  rw[DB]at D;simp only[jL]at D
  split at D
  ·rename_i y l' h' F I H V U
   simp at D;subst D
   have W:m=none:=by cases m <;> simp[tQ]at U ⊢
   grind [ael]
  ·rename_i e y l' h' m' F I H V U
   split at D
   ·rename_i n hn
    split at D
    ·rename_i K
     simp at K D;subst D
     refine aem kP h DB I H V U F hn K.1 ?_ E
     intro W
     rcases K.2 with e1|e1
     ·cases m with
      |none=>simp at W
      |some mm=>grind [tQ,Option.map_eq_some_iff]
     ·cases hh with
      |none=>grind [tQ]
      |some _=>rfl
    ·cases D
   ·cases D
  ·cases D
 |fieldAddr s x f=>
  grind [jL,amK]
 |field s x f=>
  grind [jL,aeh]
 |indexAddr t x j=>
  grind [jL,amL,aek]
 |index t x j=>
  grind [jL,aej,aei]
 |lookup t m k ok=>
  grind [jL,amW]
 |mapUpdate t m k x=>
  grind [jL,Option.map_eq_some_iff,amY]
 |extract x j=>
  rw[DB]at D;simp only[jL,Option.map_eq_some_iff]at D
  obtain⟨y,F,rfl⟩:=D
  simp only[jk]at E
  split at E
  ·rename_i vs e
   obtain⟨e1,rfl⟩:=qf E
   grind [aef]
  ·simp[Q.run]at E
 |call c=>grind [jL,XA]
 |_=>grind [jL]
end
end Go.Ev
