/- A tree evaluator over the model, proved against it (part C): where it answers, the call returns that answer. Conditions: none beyond its theorems' own. -/
import Derived.Test.YtcpceiclnbmgiaaGreatEvB
import Derived.Laws.Tables
set_option linter.unusedSimpArgs false
set_option linter.unusedVariables false
namespace Go.Ev
open Go
theorem yA{P:Program}{t:TypeId}{z:T}(h:sx P t=some z): ∃i r,P.info? t=some i∧i.zero=some r∧Dd r=some z:=by
 unfold sx at h
 cases hi:P.info? t with
 |none=>simp[hi]at h
 |some i=>
  simp only[hi,Option.bind_some]at h
  cases D:i.zero with
  |none=>simp[D]at h
  |some r=>grind
theorem Gf{P:Program}{t:TypeId}{z:T}(h:sx P t=some z)(w:World): ∃r,(zeroValue t).run P w= .ok r w∧ ∀w M,PRel w M z r:=by
 obtain⟨i,r,D,F,H⟩:=yA h
 exact⟨r,by simp[zeroValue,typeInfo,D,F],fun w M=>qH H⟩
theorem tn{β:iL}{G:Sp→Nat→Nat}{w:World}{M:iB}{t:T}{cv:Value}(h:fy β G w M t cv)(i:noTup t=true):ig β G w M (cellsOf t) cv.cells.toList∧(cellsOf t).all single=true:=by
 cases t
 case agg cs=>
  simp only[fy]at h
  obtain⟨a,rfl,r,D⟩:=h
  exact⟨r,D⟩
 case tup cs=>simp[noTup]at i
 case any=>simp[noTup]at i
 all_goals
  have F:=h
  simp only[fy,PRel]at h
  refine⟨?_,rfl⟩
  simp only[cellsOf,ig]
  refine⟨cv,[], ?_,F,rfl⟩
  first
   |(subst h;rfl)
   |(obtain⟨_,rfl,_⟩:=h;rfl)
   |(obtain⟨_,_,rfl,_⟩:=h;rfl)
   |(obtain⟨_,_,_,rfl,_⟩:=h;rfl)
   |(obtain⟨_,_,_,_,rfl,_⟩:=h;rfl)
   |(obtain⟨_,rfl⟩:=h;rfl)
theorem yB{w:World}{M:iB}{t:T}{cv:Value}(h:PRel w M t cv)(i:noTup t=true):PList w M (cellsOf t) cv.cells.toList∧(cellsOf t).all single=true:=by
 cases t
 case agg cs=>
  simp only[PRel]at h
  obtain⟨a,rfl,r,D⟩:=h
  exact⟨r,D⟩
 case tup cs=>simp[noTup]at i
 case any=>simp[noTup]at i
 case isl=>simp only[PRel]at h
 case ptr=>simp only[PRel]at h
 case mp=>simp only[PRel]at h
 all_goals
  have F:=h
  simp only[PRel]at h
  refine⟨?_,rfl⟩
  simp only[cellsOf,PList]
  refine⟨cv,[], ?_,F,rfl⟩
  first
   |(subst h;rfl)
   |(obtain⟨_,rfl,_⟩:=h;rfl)
   |(obtain⟨_,_,rfl,_⟩:=h;rfl)
   |(obtain⟨_,_,_,rfl,_⟩:=h;rfl)
   |(obtain⟨_,_,_,_,rfl,_⟩:=h;rfl)
theorem kh{α:Type}: ∀(cs:List α) (off:Nat) (i:List α),(splice cs off i).length=cs.length
 |cs,0,[]=>by grind [splice]
 | [],0,v::i=>by simp[splice]
 |c::cs,0,v::i=>by simp[splice,kh cs 0 i]
 | [],off+1,i=>by simp[splice]
 |c::cs,off+1,i=>by simp[splice,kh cs off i]
theorem qK{α:Type}: ∀(cs:List α) (off:Nat),splice cs off []=cs
 |cs,0=>by grind [splice]
 | [],off+1=>by simp[splice]
 |c::cs,off+1=>by simp[splice,qK cs off]
theorem Bp{α:Type}: ∀(cs:List α) (off:Nat) (v:α) (i:List α),splice (cs.set off v) (off+1) i=splice cs off (v::i)
 | [],off,v,i=>by grind [splice]
 |c::cs,0,v,i=>by simp[splice]
 |c::cs,off+1,v,i=>by simp[splice,Bp cs off v i]
theorem lV{α:Type}: ∀(cs:List α) (off:Nat) (i:List α) (j:Nat),(splice cs off i)[j]? =if off≤j∧j<off+i.length∧j<cs.length then i[j-off]? else cs[j]?
 |cs,0,[],j=>by rw[qK];simp
 | [],0,v::i,j=>by simp[splice]
 |c::cs,0,v::i,0=>by simp[splice]
 |c::cs,0,v::i,j+1=>by simp[splice,lV cs 0 i j]
 | [],off+1,i,j=>by simp[splice]
 |c::cs,off+1,i,0=>by simp[splice]
 |c::cs,off+1,i,j+1=>by
  simp only[splice,List.getElem?_cons_succ,lV cs off i j,List.length_cons]
  grind
theorem ig.splice{β:iL}{G:Sp→Nat→Nat}{w:World}{M:iB}: ∀{cs:List T} {r:List Value} {off:Nat} {F:List T} {Mf:List Value},ig β G w M cs r→ig β G w M F Mf→ig β G w M (splice cs off F) (splice r off Mf)
 |cs,r,0,[],Mf,i,D=>by grind [ig,qK]
 | [],r,0,v::F,Mf,i,D=>by grind [ig,Ev.splice]
 |c::cs,r,0,v::F,Mf,i,D=>by
  simp only[ig]at i D
  obtain⟨a,as,rfl,I,H⟩:=i
  obtain⟨u,us,rfl,J,K⟩:=D
  simp only[Ev.splice,ig]
  exact⟨u,_,rfl,J,ig.splice H K⟩
 | [],r,off+1,F,Mf,i,D=>by simp_all[ig,Ev.splice]
 |c::cs,r,off+1,F,Mf,i,D=>by
  simp only[ig]at i
  obtain⟨a,as,rfl,I,H⟩:=i
  simp only[Ev.splice,ig]
  exact⟨a,_,rfl,I,ig.splice H D⟩
theorem PList.splice{w:World}{M:iB}: ∀{cs:List T} {r:List Value} {off:Nat} {F:List T} {Mf:List Value},PList w M cs r→PList w M F Mf→PList w M (splice cs off F) (splice r off Mf)
 |cs,r,0,[],Mf,i,D=>by grind [PList,qK]
 | [],r,0,v::F,Mf,i,D=>by grind [PList,Ev.splice]
 |c::cs,r,0,v::F,Mf,i,D=>by
  simp only[PList]at i D
  obtain⟨a,as,rfl,I,H⟩:=i
  obtain⟨u,us,rfl,J,K⟩:=D
  simp only[Ev.splice,PList]
  exact⟨u,_,rfl,J,PList.splice H K⟩
 | [],r,off+1,F,Mf,i,D=>by simp_all[PList,Ev.splice]
 |c::cs,r,off+1,F,Mf,i,D=>by
  simp only[PList]at i
  obtain⟨a,as,rfl,I,H⟩:=i
  simp only[Ev.splice,PList]
  exact⟨a,_,rfl,I,PList.splice H D⟩
theorem tp{p:T→Bool}{cs i:List T}{off:Nat}(r:cs.all p=true)(D:i.all p=true):(splice cs off i).all p=true:=by
 grind [List.all_eq_true,lV,List.getElem?_of_mem]
theorem Av(off:Nat): ∀(r:List Value) (s:Nat) (i:Array Value),((r.zipIdx s).foldl (fun(cs:Array Value) (p:Value×Nat)=>cs.setIfInBounds (off+p.2) p.1) i).toList=splice i.toList (off+s) r
 | [],s,i=>by simp[qK]
 |v::r,s,i=>by
  simp only[List.zipIdx_cons,List.foldl_cons]
  rw[Av off r (s+1),Array.toList_setIfInBounds,←Nat.add_assoc,Bp]
theorem Ow{β:iL}{G:Sp→Nat→Nat}{w:World}{M:iB}{place:Nat→Option (Nat×Nat)}: ∀(parts:List (Nat×Value)) (F:List (Nat×List T)) (H:List T) (D:Array Value) (rs:List T),
  ig β G w M H D.toList→H.all single=true→parts.length=F.length→(∀(j i:Nat) (cv:Value) (off:Nat) (ts:List T),parts[j]? =some (i,cv)→F[j]? =some (off,ts)→place i=some (off,ts.length)∧ig β G w M ts cv.cells.toList∧ts.all single=true)→
  p5 H F=some rs→ ∃rc,Instr.fill place D parts=some rc∧ig β G w M rs rc.toList∧rs.all single=true
 | [],F,H,D,rs,J,hs,r,K,I=>by
   grind [p5,Instr.fill]
 |(i,cv)::parts,F,H,D,rs,J,hs,r,K,I=>by
  cases F with
  |nil=>simp at r
  |cons p F=>
   obtain⟨off,ts⟩:=p
   simp only[p5]at I
   split at I
   ·rename_i O
    obtain⟨W,N,U⟩:=K 0 i cv off ts rfl rfl
    have Dl:=ig.length _ _ N
    have Fh:=ig.length _ _ J
    have X:cv.cells.size=ts.length:=by rw[Dl];simp
    have V:D.size=H.length:=by rw[Fh];simp
    have hc: ¬((cv.cells.size≠ts.length||off+cv.cells.size>D.size)=true):=by
     grind
    have e:(cv.cells.zipIdx.foldl (fun(cs:Array Value) (p:Value×Nat)=>cs.setIfInBounds (off+p.2) p.1) D).toList=splice D.toList off cv.cells.toList:=by
     have:=Av off cv.cells.toList 0 D
     grind [Array.toList_zipIdx]
    obtain⟨rc,Y,Z,r3⟩:=Ow parts F (splice H off ts) (cv.cells.zipIdx.foldl (fun(cs:Array Value) (p:Value×Nat)=>cs.setIfInBounds (off+p.2) p.1) D) rs
     (by rw[e];exact ig.splice J N) (tp hs U) (by simpa using r) (fun j i cv off ts a b=>K (j+1) i cv off ts (by simpa using a) (by simpa using b)) I
    grind [Instr.fill]
   ·cases I
section
variable{P:Program}{B:lZ}{st:St}{a:Act}{w:World}{β:iL}{M:iB}{o:Oper}{v:T}{ups:List Up}
theorem yC{F:List (Nat×Nat)}: ∀{D:List (Nat×Operand)} {r:List (Nat×Nat×iF)},placesOf F D=some r→D.length=r.length∧ ∀(j i:Nat) (x:Operand) (off n:Nat) (y:iF),D[j]? =some (i,x)→r[j]? =some (off,n,y)→F[i]? =some (off,n)∧lU x=some y
 | [],r,h=>by grind [placesOf]
 |(I,x0)::D,r,h=>by
  simp only[placesOf]at h
  split at h
  ·rename_i p y J K N H
   simp at h;subst h
   obtain⟨a1,a2⟩:=yC H
   grind
  ·cases h
theorem wz{sz:Nat}: ∀{D:List (Nat×Operand)} {r:List (Nat×Nat×iF)},qu sz D=some r→D.length=r.length∧ ∀(j i:Nat) (x:Operand) (off n:Nat) (y:iF),D[j]? =some (i,x)→r[j]? =some (off,n,y)→(off=i*sz∧n=sz)∧lU x=some y
 | [],r,h=>by grind [qu]
 |(H,x0)::D,r,h=>by
  simp only[qu]at h
  split at h
  ·rename_i y I J F
   simp at h;subst h
   obtain⟨a1,a2⟩:=wz F
   grind
  ·cases h
variable(kU:pD β st.gens w M st.rho a.eval)(h:iS B st w β M)
include kU h
theorem UL{d nx:Nat}{t:TypeId}{D:Array (Nat×Operand)}{z:T}{r:List (Nat×Nat×iF)}(ho:o.op= .build t D)(hz:sx P t=some z)
  (O:(∃U H,P.underlying t=some (.struct U)∧U.toList.mapM (fun f=>(P.info? f.type).map fun i=>(f.offset,i.size))=some H∧placesOf H D.toList=some r)∨(∃n e sz,P.underlying t=some (.array n e)∧lO P e=some sz∧qu sz D.toList=some r))
  (Hh:noTup z=true) (I:(jk d st.rho (.build (cellsOf z) r)).run st.get nx=some (.val v ups)):lr P B st a w β M o v ups:=by
 obtain⟨i,V,z1,z2,z3⟩:=yA hz
 have W:fy β st.gens w M z V:=PRel.toV _ _ _ _ (qH z3)
 obtain⟨X,Y⟩:=tn W Hh
 simp only[jk]at I
 split at I
 ·rename_i jB
  cases Z:p5 (cellsOf z) (r.map fun p=>(p.1,cellsOf (st.rho p.2.2)))with
  |none=>simp[Z,Ev.val,Q.run]at I
  |some rs=>
   simp[Z,Ev.val,Q.run]at I;obtain⟨rfl,rfl⟩:=I
   have parts: ∃place:Nat→Option (Nat×Nat),(∀rc,Instr.fill place V.cells (D.toList.map fun p=>(p.1,a.eval p.2))=some rc→P.built t (D.map fun(i,x)=>(i,a.eval x)).toList=some rc)∧D.toList.length=r.length∧
     ∀(j i:Nat) (x:Operand) (off n:Nat) (y:iF),D.toList[j]? =some (i,x)→r[j]? =some (off,n,y)→place i=some (off,n)∧lU x=some y:=by
    rcases O with⟨U,H,u1,u2,u3⟩|⟨n,e,sz,u1,u2,u3⟩
    ·obtain⟨g1,g2⟩:=yC u3
     refine⟨fun i=>H[i]?,fun rc F=> ?_,g1,g2⟩
     simp only[Program.built,z1,z2,u1,u2,Array.toList_map]
     have:(fun x:Nat=>H.toArray[x]?)=fun i=>H[i]? :=by funext i;simp
     rw[this];exact F
    ·obtain⟨g1,g2⟩:=wz u3
     have: ∃J,P.info? e=some J∧J.size=sz:=by
      simp_all[lO]
     obtain⟨J,v1,v2⟩:=this
     refine⟨fun i=>some (i*J.size,J.size),fun rc F=> ?_,g1,fun j i x off n y K N=> ?_⟩
     ·simp only[Program.built,z1,z2,u1,v1,Array.toList_map];exact F
     ·obtain⟨⟨rfl,rfl⟩,c⟩:=g2 j i x off n y K N
      exact⟨by rw[v2],c⟩
   obtain⟨place,q1,q2,q3⟩:=parts
   obtain⟨rc,r1,r2,r3⟩:=Ow (place:=place) (D.toList.map fun p=>(p.1,a.eval p.2)) _ (cellsOf z) V.cells rs X Y (by simp[q2]) (by
    intro j i cv off ts K N
    rw[List.getElem?_map,Option.map_eq_some_iff]at K N
    obtain⟨⟨i',x⟩,c1,c2⟩:=K
    obtain⟨⟨ax6,n,y⟩,c3,c4⟩:=N
    simp at c2 c4
    obtain⟨rfl,rfl⟩:=c2
    obtain⟨rfl,rfl⟩:=c4
    obtain⟨e1,e2⟩:=q3 j i' x ax6 n y c1 c3
    have hv:=kU x y e2
    have UM:=(List.all_eq_true.1 jB) _ (List.mem_of_getElem? c3)
    simp at UM
    obtain⟨k1,k2⟩:=tn hv UM.2
    exact⟨by rw[e1,UM.1],k1,k2⟩) Z
   refine iM h (cv:= .agg rc) ?_ (by simp only[fy];exact⟨rc,rfl,r2,r3⟩)
   have:=run_build (P:=P) w t (D.map fun(i,x)=>(i,a.eval x)) rc (q1 rc r1)
   simp[execOp,ho,this]
 ·simp[Q.run]at I
end
end Go.Ev
namespace Go.Ev
open Go
theorem oO{st:St}{d:Nat}{sh:Bool}{ob:Ob}{f:Sp→Nat→Nat→T}{v:T}{ups:List Up}(h:(nW d sh ob f).run st.get st.sh.length=some (.val v ups)):
  ∃sp k g,v=f sp k g∧ups= [(sp,k,⟨g,ob⟩)]∧st.gens sp k<g∧(sp= .S→sh=true):=by
 grind [nW,Q.run,St.get,Ga,lW]
theorem yD{α:Type}(z:List α): ∀n,(repl z n).length=n*z.length
 |0=>by simp[repl]
 |n+1=>by simp[repl,yD z n,Nat.add_mul];omega
theorem JU{α:Type}(z:List α)(i:z≠ []): ∀(n j:Nat),j<n*z.length→(repl z n)[j]? =z[j%z.length]?
 |0,j,h=>by simp at h
 |n+1,j,h=>by
  have D:0<z.length:=List.length_pos_iff.2 i
  simp only[repl]
  by_cases r:j<z.length
  ·rw[List.getElem?_append_left r,Nat.mod_eq_of_lt r]
  ·rw[List.getElem?_append_right (by omega),JU z i n (j-z.length) (by rw[Nat.add_mul]at h;omega)]
   grind [Nat.mod_eq_sub_mod]
theorem Dp(z:Array Value)(n:Nat)(r:z.size≠0):((Array.range (n*z.size)).map (fun i=>z[i%z.size]!)).toList=repl z.toList n:=by
 apply List.ext_getElem?
 grind [JU,List.getElem?_eq_none,yD,Nat.mod_lt]
theorem PList.repl{w:World}{M:iB}{z:List T}{i:List Value}(h:PList w M z i): ∀n,PList w M (Ev.repl z n) (Ev.repl i n)
 |0=>by simp[Ev.repl,PList]
 |n+1=>by simp only[Ev.repl];exact PList.append h (PList.repl h n)
theorem Dq{z:List T}(h:z.all single=true): ∀n,(repl z n).all single=true
 |0=>by simp[repl]
 |n+1=>by simp only[repl,List.all_append,Bool.and_eq_true];exact⟨h,Dq h n⟩
theorem Fj{P:Program}{w:World}{t e:TypeId}{i:TypeInfo}{r:Value}{k:IntKind}{m:Int}(F:P.underlying t=some (.slice e))(hi:P.info? e=some i)(H:i.zero=some r)(K:0≤m)(UN:IntKind.i64.wrap m=m)
  (N:(i.bytes:Int)*m≤281474976710656) (O:m.toNat*i.bytes≤140737488355328):
  (Instr.makeSlice t (.int k m) (.int k m)).run P w= .ok (.slice (some ⟨w.heap.size,0,none⟩) m.toNat m.toNat) (w.alloc (.cells ((Array.range (m.toNat*i.size)).map (fun j=>r.cells[j%r.cells.size]!)) e)):=by
 have I: ¬(m<0):=by omega
 have U: ¬(281474976710656<(i.bytes:Int)*m):=by omega
 have V: ¬(140737488355328<m.toNat*i.bytes):=by omega
 have J: ¬(m.toNat*i.bytes>roomBytes):=by unfold roomBytes;omega
 simp only[Instr.makeSlice,Sem.run_bind,run_underlying F,Result.andThen_ok,asInt,asIntOf,Sem.run_pure,typeInfo,run_program,hi,UN]
 simp only[I,decide_false,Bool.false_or,Int.lt_irrefl,gt_iff_lt,Bool.or_false]
 rw[if_neg (by simp;omega)]
 simp only[Sem.run_bind,askRoom,if_neg J,Sem.run_pure,Result.andThen_ok,sizeOf,typeInfo,run_program,hi]
 by_cases D:m.toNat*i.size=0
 ·rw[if_pos D,D]
  have:Array.range 0= #[]:=rfl
  simp[newRow,this]
 ·rw[if_neg D]
  simp[newRow,zeroValue,typeInfo,hi,H]
section
variable{P:Program}{B:lZ}{st:St}{a:Act}{w:World}{β:iL}{M:iB}{o:Oper}{v:T}{ups:List Up}
theorem Aw(h:iS B st w β M)(el:TypeId)(c:Array Value)(cs:List T)(bx:Bool)(sp:Sp)(k g:Nat)(F:st.gens sp k<g)
  (H:pz sp bx β st.gens w M cs (c.toList.take cs.length)) (hs:cs.all single=true) (r:cs.length≤c.size):
  iS B (st.up (sp,k,⟨g,.cells cs 0 bx⟩)) (w.alloc (.cells c el)) (ni β sp k g ⟨w.heap.size,0,c.size⟩) (fun b x=>M b x∨b=w.heap.size)∧
  Tr st w β M (st.up (sp,k,⟨g,.cells cs 0 bx⟩)) (w.alloc (.cells c el)) (ni β sp k g ⟨w.heap.size,0,c.size⟩) (fun b x=>M b x∨b=w.heap.size):=by
 have I: ∀i k' D,D≤st.gens i k'→ni β sp k g ⟨w.heap.size,0,c.size⟩ i k' D=β i k' D:=by
  grind [yw]
 have J: ∀i k',st.gens i k'≤(st.up (sp,k,⟨g,.cells cs 0 bx⟩)).gens i k':=by
  intro i k'
  rw[lC]
  grind
 refine UF h sp k g F (.cells c el) c.size (.cells cs 0 bx) ?_
 unfold kW
 simp only[jA]
 refine⟨c,el,(0,0),by rw[heap_alloc,if_pos rfl],by omega,r,rfl, ?_,fun j _ _=>Or.inr (by trivial),hs,Nat.zero_le _⟩
 simp only[List.drop_zero]
 exact pz.mono (th w M _) I J H
theorem Hi{o':Obj}{sp:Sp}{k g:Nat}{ob:Ob}{ext:Nat}{cv:Value}{v:T}(hr:(execOp a.eval o).run P w= .ok (.value cv) (w.alloc o'))
  (i:iS B (st.up (sp,k,⟨g,ob⟩)) (w.alloc o') (ni β sp k g ⟨w.heap.size,0,ext⟩) (fun b x=>M b x∨b=w.heap.size)∧
    Tr st w β M (st.up (sp,k,⟨g,ob⟩)) (w.alloc o') (ni β sp k g ⟨w.heap.size,0,ext⟩) (fun b x=>M b x∨b=w.heap.size))
  (r:fy (ni β sp k g ⟨w.heap.size,0,ext⟩) (st.up (sp,k,⟨g,ob⟩)).gens (w.alloc o') (fun b x=>M b x∨b=w.heap.size) v cv):lr P B st a w β M o v [(sp,k,⟨g,ob⟩)]:=
 ⟨_,cv,_,_,_,hr,.inl rfl,i.1,i.2,by show _≤(w.heap.push o').size;simp,r⟩
theorem Tr.less{M':iB}(hs: ∀b x,M' b x→M b x):Tr st w β M st w β M':=⟨kz hs,fun _ _ _ _=>rfl,fun _ _=>Nat.le_refl _⟩
theorem lr.less{M':iB}(hs: ∀b x,M' b x→M b x)(h:lr P B st a w β M' o v ups):lr P B st a w β M o v ups:=by
 obtain⟨i,cv,w',r,M2,D,F,H,I,J,K⟩:=h
 exact⟨i,cv,w',r,M2,D,F,H,(Tr.less hs).trans I (Nat.le_refl _),J,K⟩
theorem yF{l:List Value}{n:Nat}(h:n=l.length):l.take n=l:=by subst h;simp
variable(kU:pD β st.gens w M st.rho a.eval)(h:iS B st w β M)
include h
theorem UO{d:Nat}{sh:Bool}{t:TypeId}{z:T}(F:o.op= .alloc t)(H:sx P t=some z)(Hh:noTup z=true)
  (r:(jk d st.rho (.alloc (cellsOf z) sh)).run st.get st.sh.length=some (.val v ups)):lr P B st a w β M o v ups:=by
 simp only[jk]at r
 obtain⟨sp,k,g,rfl,rfl,I,J⟩:=oO r
 obtain⟨K,N,O⟩:=Gf H w
 obtain⟨D,U⟩:=yB (O w M) Hh
 have i:=PList.length _ _ D
 refine Hi (cv:= .pointer (some ⟨w.heap.size,0,none⟩)) ?_ (Aw h t K.cells (cellsOf z) true sp k g I (by rw[yF i];exact pz.ofP D) U (by rw[i];simp)) ?_
 ·simp[execOp,F,Instr.alloc,N,newVar,newRow]
 ·simp[fy,jA,lC]
include kU
theorem ahp{d:Nat}{sh:Bool}{t:TypeId}{x:Operand}{F:iF}(V:o.op= .box t x)(hx:lU x=some F)
  (i:(jk d st.rho (.box F sh)).run st.get st.sh.length=some (.val v ups)):lr P B st a w β M o v ups:=by
 have W:=kU x F hx
 simp only[jk]at i
 split at i
 ·simp[Q.run]at i
 ·rename_i JV
  simp at JV
  have H: ∀(M':iB) (r:T),iS B st w β M'→noTup r=true→ ∀sp k g,st.gens sp k<g→(match sp with| .L=>fy β st.gens w M' r (a.eval x)| .S=>ti true β st.gens w M' r (a.eval x))→lr P B st a w β M' o (.ptr sp k g 0) [(sp,k,⟨g,.cells (cellsOf r) 0 true⟩)]:=by
   intro M' r X JV sp k g I Y
   have J:fy β st.gens w M' r (a.eval x):=by
    grind [ti.toV]
   obtain⟨N,Z⟩:=tn J JV
   have D:=ig.length _ _ N
   refine Hi (cv:= .pointer (some ⟨w.heap.size,0,none⟩)) ?_ (Aw X t (a.eval x).cells (cellsOf r) true sp k g I (by
    rw[yF D]
    cases sp
    ·exact N
    ·exact fun iP G' p q=>(tn (Y iP G' p q) JV).1) Z (by rw[D];simp)) ?_
   ·simp[execOp,V,Instr.box,newVar,newRow]
   ·simp[fy,jA,lC]
  split at i
  ·simp only[Q.run_bind]at i
   cases K:(fz true iG (st.rho F)).run st.get st.sh.length with
   |none=>simp[K]at i
   |some p=>
    obtain⟨r,us⟩:=p
    simp only[K,Option.bind_some]at i
    split at i
    ·rename_i O
     simp at O
     obtain⟨rfl,Zv⟩:=O
     obtain⟨sp,k,g,rfl,rfl,I,hgs⟩:=oO i
     obtain⟨M',q1,q2,q3,U,q5⟩:=Bk true st iG (st.rho F) B st w β M _ r [] _ (Fz.refl st) h W K
     exact lr.less q3 (H M' r q1 Zv sp k g I (by cases sp;exact U.toV;exact U))
    ·simp[Q.run]at i
  grind [oO]
omit kU in
theorem UP{d:Nat}{sh:Bool}{t:TypeId}(r:o.op= .makeMap t none)(i:(jk d st.rho (.mkmap sh)).run st.get st.sh.length=some (.val v ups)):lr P B st a w β M o v ups:=by
 simp only[jk]at i
 obtain⟨sp,k,g,rfl,rfl,D,F⟩:=oO i
 refine Hi (ext:=0) (cv:= .map (some w.heap.size)) (o':= .map #[] 0) ?_ (UF h sp k g D (.map #[] 0) 0 (.map [] [] false) ?_) ?_
 ·simp[execOp,r,Instr.makeMap]
 ·unfold kW
  simp only[jA]
  exact⟨#[],0,by rw[heap_alloc,if_pos rfl],MapKept.stamped_empty 0,by simp[PList],by simp[PList],fun _ _=>Or.inr (by trivial)⟩
 ·simp[fy,jA,lC]
theorem aau{d:Nat}{sh:Bool}{t e:TypeId}{l c:Operand}{N:iF}{i:TypeInfo}{z:T}(ho:o.op= .makeSlice t l c)(ht:P.underlying t=some (.slice e))(hi:P.info? e=some i)(hz:sx P e=some z)(hl:lU l=some N)(O:Hb l c=true)
  (Hh:noTup z=true) (K:i.size=(cellsOf z).length) (h0:i.size≠0)
  (F:(jk d st.rho (.mksl (cellsOf z) i.bytes N sh)).run st.get st.sh.length=some (.val v ups)):lr P B st a w β M o v ups:=by
 have Z:=kU l N hl
 have ec:a.eval c=a.eval l:=by
  unfold Hb at O
  grind
 simp only[jk]at F
 split at F
 ·rename_i n en
  obtain⟨k0,m,em,hm,rfl⟩:=nN en
  rw[em]at Z
  have el:=Z.int
  split at F
  ·rename_i mw
   simp at mw
   obtain⟨U,Ox⟩:=mw
   obtain⟨sp,k,g,rfl,rfl,hg,hgs⟩:=oO F
   obtain⟨i',r,V,z2,z3⟩:=yA hz
   rw[hi]at V;simp at V;subst V
   obtain⟨c1,c2⟩:=yB (w:=w) (M:=M) (qH z3) Hh
   have H:=PList.length _ _ c1
   have W:r.cells.size=i.size:=by rw[K,H];simp
   have X:=Dp r.cells m.toNat (by omega)
   have Y:roomy=1099511627776:=rfl
   rw[Y]at U Ox
   have UN:IntKind.i64.wrap m=m:=by
    simp[IntKind.wrap,IntKind.bits,IntKind.signed];omega
   have I:((Array.range (m.toNat*i.size)).map (fun j=>r.cells[j%r.cells.size]!)).size=m.toNat*i.size:=by simp
   refine Hi (cv:= .slice (some ⟨w.heap.size,0,none⟩) m.toNat m.toNat) ?_ (Aw h e ((Array.range (m.toNat*i.size)).map (fun j=>r.cells[j%r.cells.size]!)) (repl (cellsOf z) m.toNat) (UD (cellsOf z)) sp k g hg ?_ (Dq c2 _) ?_) ?_
   ·have J:(i.bytes:Int)*m=((m.toNat*i.bytes:Nat):Int):=by rw[Int.natCast_mul,Int.toNat_of_nonneg hm,Int.mul_comm]
    have:=Fj (P:=P) (w:=w) (k:=k0) ht hi z2 hm UN (by rw[J];omega) (by omega)
    simp[execOp,ho,ec,el,this]
   ·have D:PList w M (repl (cellsOf z) m.toNat) (((Array.range (m.toNat*i.size)).map (fun j=>r.cells[j%r.cells.size]!)).toList.take (repl (cellsOf z) m.toNat).length):=by
     rw[yD,←K,←W,X]
     have:=PList.repl c1 m.toNat
     rw[yF]
     ·exact this
     ·rw[yD];simp
    cases hb:UD (cellsOf z)with
    |false=>exact D
    |true=>
     cases sp with
     |L=>exact PList.toV β st.gens _ _ D
     |S=>exact fun iP G' _ _=>PList.toV iP G' _ _ D
   ·rw[I,yD,K];exact Nat.le_refl _
   ·simp only[fy,jA,lC]
    refine⟨by simp,m.toNat,rfl,Nat.le_refl _, ?_⟩
    rw[I,K];simp
  ·simp[Q.run]at F
 ·simp[Q.run]at F
end
end Go.Ev
namespace Go.Ev
open Go
theorem qh(st:St): ∀(us:List Up) (sp:Sp) (k:Nat),oM us sp k=false→(st.ups us).get sp k=st.get sp k:=by
 intro us
 induction us generalizing st with
 |nil=>intro sp k _;rfl
 |cons u us ih=>
  grind [oM,Bool.or_eq_false_iff,St.ups,l9]
theorem afi(st:St)(u:Up):(st.up u).fr=st.fr:=by obtain⟨sp,k,e⟩:=u;cases sp <;> rfl
theorem Hj(st:St): ∀(us:List Up),(st.ups us).fr=st.fr:=by
 intro us
 induction us generalizing st with
 |nil=>rfl
 |cons u us ih=>grind [St.ups,afi]
theorem Bq: ∀{D:List (Nat×Operand)} {r:List (Nat×iF)},vE D=some r→D.length=r.length∧ ∀(j i:Nat) (x:Operand) (F:Nat) (y:iF),D[j]? =some (i,x)→r[j]? =some (F,y)→F=i∧lU x=some y
 | [],r,h=>by grind [vE]
 |(I,x0)::D,r,h=>by
  simp only[vE]at h
  split at h
  ·rename_i y J K H
   simp at h;subst h
   obtain⟨a1,a2⟩:=Bq H
   grind
  ·cases h
theorem JW{w:World}{M:iB}{place:Nat→Option (Nat×Nat)}: ∀(parts:List (Nat×Value)) (F:List (Nat×List T)) (H:List T) (D:Array Value) (rs:List T),
  PList w M H D.toList→H.all single=true→parts.length=F.length→(∀(j i:Nat) (cv:Value) (off:Nat) (ts:List T),parts[j]? =some (i,cv)→F[j]? =some (off,ts)→place i=some (off,ts.length)∧PList w M ts cv.cells.toList∧ts.all single=true)→
  p5 H F=some rs→ ∃rc,Instr.fill place D parts=some rc∧PList w M rs rc.toList∧rs.all single=true∧rs.length=H.length
 | [],F,H,D,rs,J,hs,r,K,I=>by
   grind [p5,Instr.fill]
 |(i,cv)::parts,F,H,D,rs,J,hs,r,K,I=>by
  cases F with
  |nil=>simp at r
  |cons p F=>
   obtain⟨off,ts⟩:=p
   simp only[p5]at I
   split at I
   ·rename_i O
    obtain⟨W,N,U⟩:=K 0 i cv off ts rfl rfl
    have Dl:=PList.length _ _ N
    have Fh:=PList.length _ _ J
    have X:cv.cells.size=ts.length:=by rw[Dl];simp
    have V:D.size=H.length:=by rw[Fh];simp
    have hc: ¬((cv.cells.size≠ts.length||off+cv.cells.size>D.size)=true):=by
     grind
    have e:(cv.cells.zipIdx.foldl (fun(cs:Array Value) (p:Value×Nat)=>cs.setIfInBounds (off+p.2) p.1) D).toList=splice D.toList off cv.cells.toList:=by
     have:=Av off cv.cells.toList 0 D
     grind [Array.toList_zipIdx]
    obtain⟨rc,Y,Z,r3,r4⟩:=JW parts F (splice H off ts) (cv.cells.zipIdx.foldl (fun(cs:Array Value) (p:Value×Nat)=>cs.setIfInBounds (off+p.2) p.1) D) rs
     (by rw[e];exact PList.splice J N) (tp hs U) (by simpa using r) (fun j i cv off ts a b=>K (j+1) i cv off ts (by simpa using a) (by simpa using b)) I
    grind [kh,Instr.fill]
   ·cases I
theorem Ds{P:Program}{w:World}{t e:TypeId}{len n:Nat}{i:TypeInfo}{F:Value}{parts:Array (Nat×Value)}{rc:Array Value}(H:P.underlying t=some (.slice e))(hi:P.info? e=some i)(K:i.size=n)(N:i.zero=some F)(O:len*n≤16777216)
  (Gg:Instr.fill (fun j=>some (j*n,n)) ((Array.range (len*n)).map (fun j=>F.cells[j%F.cells.size]!)) parts.toList=some rc):
  (Instr.buildSlice t len parts).run P w= .ok (.slice (some ⟨w.heap.size,0,none⟩) len len) (w.alloc (.cells rc e)):=by
 have JX: ¬(len*n>2 ^ 24):=by omega
 have D:(sizeOf e).run P w= .ok n w:=by simp[sizeOf,typeInfo,hi,K]
 have r:(zeroValue e).run P w= .ok F w:=by simp[zeroValue,typeInfo,hi,N]
 unfold Instr.buildSlice
 by_cases I:len*n=0
 ·have J: ∀f:Nat→Value,(Array.range (len*n)).map f= #[]:=by
   grind
  rw[J]at Gg
  simp only[Sem.run_bind,run_underlying H,Result.andThen_ok,D,if_neg JX,if_pos I,Sem.run_pure,J,Gg]
  simp[newRow]
 ·simp only[Sem.run_bind,run_underlying H,Result.andThen_ok,D,if_neg JX,if_neg I,Sem.run_pure,r,Gg]
  simp[newRow]
section
variable{P:Program}{B:lZ}{st:St}{a:Act}{w:World}{β:iL}{M:iB}{o:Oper}{v:T}{ups:List Up}
variable(kU:pD β st.gens w M st.rho a.eval)(h:iS B st w β M)
theorem Tr.fz{i:St}{M':iB}(r:Fz st i)(hs: ∀b x,M' b x→M b x):Tr st w β M i w β M':=
 ⟨kz hs,fun _ _ _ _=>rfl,fun sp k=>by rw[r.gens];exact Nat.le_refl _⟩
include kU h
theorem ahs{d N:Nat}{t e:TypeId}{len:Nat}{H:Array (Nat×Operand)}{r:List (Nat×iF)}{z:T}{n:Nat}(ho:o.op= .buildSlice t len H)(ht:P.underlying t=some (.slice e))(hz:sx P e=some z)(O:lO P e=some n)(hr:vE H.toList=some r)
  (Hh:noTup z=true) (U:n=(cellsOf z).length) (h0:n≠0) (BR:len*n≤16777216)
  (D:(jk d st.rho (.bsl (cellsOf z) len r)).run st.get N=some (.val v ups)):lr P B st a w β M o v ups:=by
 simp only[jk,Q.run_bind]at D
 cases V:(ja (Ev.fz false iG) (r.map fun p=>st.rho p.2)).run st.get N with
 |none=>simp[V]at D
 |some p=>
  obtain⟨ts,us⟩:=p
  simp only[V,Option.bind_some]at D
  split at D
  ·rename_i jB
   split at D
   ·rename_i cs hf
    simp[Q.run]at D;obtain⟨rfl,rfl⟩:=D
    obtain⟨g1,g2⟩:=Bq hr
    have uG:ig β st.gens w M (r.map fun p=>st.rho p.2) (H.toList.map fun p=>a.eval p.2):=by
     have gen: ∀(I:List (Nat×Operand)) (rs:List (Nat×iF)),I.length=rs.length→(∀(j i:Nat) (x:Operand) (K:Nat) (y:iF),I[j]? =some (i,x)→rs[j]? =some (K,y)→K=i∧lU x=some y)→ig β st.gens w M (rs.map fun p=>st.rho p.2) (I.map fun p=>a.eval p.2):=by
      intro I
      induction I with
      |nil=>grind [ig]
      |cons q I ih=>
       intro rs hl hg
       cases rs with
       |nil=>simp at hl
       |cons rr rs=>
        simp only[List.map_cons,ig]
        exact⟨_,_,rfl,kU _ _ (hg 0 q.1 q.2 rr.1 rr.2 rfl rfl).2,ih rs (by simpa using hl) (fun j i x K y a b=>hg (j+1) i x K y (by simpa using a) (by simpa using b))⟩
     grind
    obtain⟨M',q1,q2,q3,q4,q5,q6⟩:=pg (fun t=>Bk false st iG t) _ B st w β M _ ts us N (Fz.refl st) h uG V
    have W:PList w M' ts (H.toList.map fun p=>a.eval p.2):=q4
    obtain⟨i,X,z1,z2,z3⟩:=yA hz
    obtain⟨c1,c2⟩:=yB (w:=w) (M:=M') (qH z3) Hh
    have Y:=PList.length _ _ c1
    have Z:i.size=n:=by unfold lO at O;rw[z1]at O;simpa using O
    have J:X.cells.size=n:=by rw[U,Y];simp
    have ahq:=Dp X.cells len (by omega)
    rw[J]at ahq
    have aq6:PList w M' (repl (cellsOf z) len) ((Array.range (len*n)).map (fun j=>X.cells[j%n]!)).toList:=by
     grind [PList.repl]
    obtain⟨rc,r1,r2,r3,r4⟩:=JW (place:=fun i=>some (i*n,n)) (H.toList.map fun p=>(p.1,a.eval p.2)) _ (repl (cellsOf z) len) _ cs aq6 (Dq c2 len) (by simp[g1,q6]) (by
     intro j i cv off tt b1 b2
     rw[List.getElem?_map,Option.map_eq_some_iff]at b1
     obtain⟨⟨i1,x⟩,c3,c4⟩:=b1
     simp at c4;obtain⟨rfl,rfl⟩:=c4
     rw[List.getElem?_zip_eq_some]at b2
     obtain⟨b3,b4⟩:=b2
     rw[List.getElem?_map,Option.map_eq_some_iff]at b3 b4
     obtain⟨⟨i2,y⟩,d1,d2⟩:=b3
     obtain⟨tv,d3,d4⟩:=b4
     obtain⟨e1,e2⟩:=g2 j i1 x i2 y c3 d1
     subst e1
     simp at d2
     obtain⟨cv',f1,f2⟩:=W.get d3
     rw[List.getElem?_map,c3]at f1
     simp at f1;subst f1
     have F:=(List.all_eq_true.1 jB) _ (List.mem_of_getElem? d3)
     simp at F
     obtain⟨k1,k2⟩:=yB f2 F.2
     subst d4
     exact⟨by rw[F.1,←U,←d2,U],k1,k2⟩) hf
    obtain⟨p1,p2⟩:=ag7 q1 (.cells rc e)
    refine⟨_,.slice (some ⟨w.heap.size,0,none⟩) len len,w.alloc (.cells rc e),β,M', ?_,.inl rfl,p1,(Tr.fz q2 q3).trans p2 (Nat.le_refl _),by show _≤(w.heap.push _).size;simp, ?_⟩
    ·have:=Ds (P:=P) (w:=w) (t:=t) (e:=e) (len:=len) (n:=n) (parts:=H.map fun(i,x)=>(i,a.eval x)) (rc:=rc) ht z1 Z z2 BR (by rw[J];simpa using r1)
     simp[execOp,ho,this]
    ·simp only[fy,PRel]
     refine⟨w.heap.size,0,len,none,rfl,Nat.le_refl _,fun _=>rfl,.inl rfl, ?_⟩
     have IE:=PList.length _ _ r2
     refine PCells.of (c:=rc) (el:=e) (fz:=(0,0)) (by rw[heap_alloc,if_pos rfl]) _ _ ?_ ?_ r3
     ·rw[List.drop_zero,yF IE];exact PList.mono p2.keep _ _ r2
     ·intro x _ _ hmx
      exact Nat.lt_irrefl _ (q1.mlt _ _ hmx)
   ·simp[Q.run]at D
  ·simp[Q.run]at D
end
end Go.Ev
namespace Go.Ev
open Go
theorem pV{w:World}{g:Nat}{Zw cs:Array Value}{t:TypeId}{fr:Nat×Nat}(i:w.heap[g]? =some (.cells Zw t fr)):w.setRow g cs=setBlock w g (.cells cs t fr):=by
 unfold World.setRow setBlock
 congr 1
 grind
theorem fy.one{β:iL}{G:Sp→Nat→Nat}{w:World}{M:iB}{t:T}{cv:Value}(h:fy β G w M t cv)(hs:single t=true):cv.oneCell'=true:=by
 cases t <;> simp[single]at hs <;> simp only[fy,PRel]at h
 all_goals first
  |(subst h;rfl)
  |(obtain⟨_,rfl,_⟩:=h;rfl)
  |(obtain⟨_,_,rfl,_⟩:=h;rfl)
  |(obtain⟨_,_,_,rfl,_⟩:=h;rfl)
  |(obtain⟨_,_,_,_,rfl,_⟩:=h;rfl)
  |(obtain⟨_,rfl⟩:=h;rfl)
theorem ig.one{β:iL}{G:Sp→Nat→Nat}{w:World}{M:iB}: ∀{ts:List T} {i:List Value},ig β G w M ts i→ts.all single=true→ ∀v∈i,v.oneCell'=true
 | [],i,h,_=>by grind [ig]
 |t::ts,i,h,hs=>by
  simp only[ig]at h
  obtain⟨u,us,rfl,r,D⟩:=h
  simp only[List.all_cons,Bool.and_eq_true]at hs
  intro v hv
  simp at hv
  rcases hv with rfl|hv
  ·exact r.one hs.1
  ·exact ig.one D hs.2 v hv
theorem aav(l i:List Value)(k:Nat)(hk:k+i.length≤l.length)(j:Nat):(l.take k++i++l.drop (k+i.length))[j]? =(splice l k i)[j]? :=by
 rw[lV]
 grind
theorem Dt(l i:List Value)(k:Nat)(hk:k+i.length≤l.length):l.take k++i++l.drop (k+i.length)=splice l k i:=by
 apply List.ext_getElem?;intro j;exact aav l i k hk j
section
variable{P:Program}{B:lZ}{st:St}{a:Act}{w:World}{β:iL}{M:iB}{o:Oper}{v:T}{ups:List Up}
theorem yG(h:iS B st w β M){sp:Sp}{k g wm:Nat}{cs:List T}{bx:Bool}(V:st.get sp k=⟨g,.cells cs wm bx⟩)(i:Nat)(QW:g≤i){c:Array Value}{el:TypeId}
  (W:w.heap[(β sp k g).blk]? =some (.cells c el (0,0))) (off:Nat) (r:List Value) (SX:List T) (Hk:wm≤off) (JY:off+r.length≤(β sp k g).ext) (hle:wm≤SX.length) (X:SX.length≤(β sp k g).ext) (hs:SX.all single=true)
  (hl:pz sp bx β st.gens w M SX ((splice (c.toList.drop (β sp k g).off) off r).take SX.length)):
  iS B (st.up (sp,k,⟨i,.cells SX wm bx⟩)) (setBlock w (β sp k g).blk (.cells (splice c.toList ((β sp k g).off+off) r).toArray el)) (ni β sp k i (β sp k g)) M∧
  Tr st w β M (st.up (sp,k,⟨i,.cells SX wm bx⟩)) (setBlock w (β sp k g).blk (.cells (splice c.toList ((β sp k g).off+off) r).toArray el)) (ni β sp k i (β sp k g)) M:=by
 have Y:st.gens sp k=g:=by show(st.get sp k).g=g;rw[V]
 have J:live (st.get sp k):=by rw[V];trivial
 have Z:=h.obj sp k
 rw[V]at Z
 unfold kW at Z
 obtain⟨c0,el0,fz0,U,h2,h3,h4,h5,h6,h7,h8⟩:=Z
 dsimp only at U h2 h3 h4 h6
 rw[W]at U
 simp at U
 obtain⟨rfl,rfl,rfl⟩:=U
 have K:=rv W
 have hk:kQ w M (setBlock w (β sp k g).blk (.cells (splice c.toList ((β sp k g).off+off) r).toArray el)) M:=by
  refine⟨fun b x u H I=> ?_,fun b es cl H I=> ?_,fun _ _ _ h=>h⟩
  ·by_cases N:b=(β sp k g).blk
   ·subst N
    unfold World.cell? at H ⊢
    rw[W]at H
    rw[kG,if_pos ⟨rfl,K⟩]
    simp at H ⊢
    rw[lV,if_neg]
    ·simpa using H
    ·rintro⟨q1,q2,q3⟩
     apply I
     have:=h6 (x-(β sp k g).off) (by omega) (by omega)
     rwa [show(β sp k g).off+(x-(β sp k g).off)=x by omega]at this
   ·rw[n4 (w:=w) (by rw[kG,if_neg (fun e=>N e.1)])];exact H
  grind [kG]
 have UQ: ∀D k' F,F≤st.gens D k'→ni β sp k i (β sp k g) D k' F=β D k' F:=by
  grind [jA,yw]
 have hG: ∀D k',st.gens D k'≤(st.up (sp,k,⟨i,.cells SX wm bx⟩)).gens D k':=by
  intro D k';rw[lC];split
  ·grind
  ·grind
 have O:=Oj (M':=M) h sp k i (.cells SX wm bx) J (by rw[Y];exact QW) (.cells (splice c.toList ((β sp k g).off+off) r).toArray el) (fun _ _ I=>I) (fun _ _ _ I=>I) (by rw[Y];exact hk) (h.base J)
 rw[Y]at O
 refine O ?_
 unfold kW
 simp only[jA]
 refine⟨_,el,(0,0),by rw[kG,if_pos ⟨rfl,K⟩],by simp[kh];omega,X,rfl, ?_,h6,hs,by omega⟩
 have aq9:(splice c.toList ((β sp k g).off+off) r).drop (β sp k g).off=splice (c.toList.drop (β sp k g).off) off r:=by
  apply List.ext_getElem?
  grind [lV,List.length_drop]
 simp only[List.toList_toArray]at aq9 ⊢
 grind [pz.mono]
variable(kU:pD β st.gens w M st.rho a.eval)(h:iS B st w β M)
include h
omit h in
theorem Gh{M':iB}{us:List Up}{t:TypeId}{n:Nat}{x y:Operand}{sp:Sp}{k g off wm:Nat}{cs:List T}{bx:Bool}{ts:List T}(ho:o.op= .store t x y)(hn:lO P t=some n)(U:iS B (st.ups us) w β M')(K:Tr st w β M (st.ups us) w β M')
  (hx:a.eval x= .pointer (some ⟨(β sp k g).blk,(β sp k g).off+off,none⟩)) (V:(st.ups us).get sp k=⟨g,.cells cs wm bx⟩) (Hk:wm≤off) (hle:off+n≤cs.length) (W:ts.length=n) (hs:ts.all single=true)
  (D:pz sp bx β (st.ups us).gens w M' ts (a.eval y).cells.toList):
  lr P B st a w β M o iT (us++ [(sp,k,⟨g,.cells (splice cs off ts) wm bx⟩)]):=by
 have BP:=U.obj sp k
 rw[V]at BP
 unfold kW at BP
 obtain⟨c,el,fz,F,h2,X,Y,H,h6,h7,h8⟩:=BP
 dsimp only at F h2 X Y H h6
 subst Y
 have r:ig β (st.ups us).gens w M' ts (a.eval y).cells.toList:=D.toV
 have N:=ig.length _ _ r
 have UR:=ig.one r hs
 have I:=run_storeCells_at P (β sp k g).blk ((β sp k g).off+off) el (a.eval y).cells.toList 0 c w F (by simp at N ⊢; omega) UR
 rw[pV F]at I
 simp only[Nat.add_zero]at I
 rw[Dt _ _ _ (by simp at N ⊢; omega)]at I
 have i:=yG U V g (Nat.le_refl _) F off (a.eval y).cells.toList (splice cs off ts) Hk (by omega) (by rw[kh];omega) (by rw[kh];exact X) (tp h7 hs) (by
  rw[kh]
  have US:(splice (c.toList.drop (β sp k g).off) off (a.eval y).cells.toList).take cs.length=splice ((c.toList.drop (β sp k g).off).take cs.length) off (a.eval y).cells.toList:=by
   apply List.ext_getElem?
   intro j
   rw[List.getElem?_take,lV,lV,List.getElem?_take,List.length_take]
   by_cases J:j<cs.length
   ·rw[if_pos J,if_pos J]
    by_cases hc:off≤j∧j<off+(a.eval y).cells.toList.length∧j<(c.toList.drop (β sp k g).off).length
    ·rw[if_pos hc,if_pos (by omega)]
    ·rw[if_neg hc,if_neg (by omega)]
   ·rw[if_neg J,if_neg J,if_neg (by omega)]
  rw[US]
  cases bx
  ·exact PList.splice H D
  ·cases sp
   ·exact ig.splice H D
   ·exact fun Z G' p q=>ig.splice (H Z G' p q) (D Z G' p q))
 rw[sC]at i
 refine⟨.skip,undef,setBlock w (β sp k g).blk (.cells (splice c.toList ((β sp k g).off+off) (a.eval y).cells.toList).toArray el),β,M', ?_,.inr ⟨rfl,rfl⟩, ?_, ?_,by rw[ll];exact Nat.le_refl _, ?_⟩
 ·have O:(a.eval y).cells.size=n:=by simp at N;omega
  simp[execOp,ho,hx,Instr.storeAt,Instr.sureAddr,storeVar,mY hn,O,I]
 ·rw[kR];exact i.1
 ·rw[kR];exact K.trans i.2 (Nat.le_refl _)
 ·simp[fy,iT,undef,ig]
include kU
theorem ara{d:Nat}{t:TypeId}{n:Nat}{x y:Operand}{J D:iF}(U:o.op= .store t x y)(hx:lU x=some J)(hy:lU y=some D)(V:lO P t=some n)
  (i:(jk d st.rho (.st J D n)).run st.get st.sh.length=some (.val v ups)):lr P B st a w β M o v ups:=by
 have I:=kU x J hx
 have W:=kU y D hy
 simp only[jk,rV]at i
 split at i
 ·simp[Q.run]at i
 ·rename_i hc
  simp at hc
  obtain⟨F,JV⟩:=hc
  split at i
  ·rename_i sp k g off ex
   rw[ex]at I
   simp only[fy]at I
   simp only[Q.run]at i
   split at i
   ·rename_i X
    generalize Y:st.get sp k=e at*
    obtain⟨ge,ob⟩:=e
    dsimp only at X;subst X
    cases ob with
    |none=>simp[Q.run]at i
    |map _ _ _=>simp[Q.run]at i
    |cells cs wm bx=>
     dsimp only at i
     split at i
     ·rename_i Hk
      simp at Hk
      split at i
      ·rename_i Mg
       simp at Mg
       obtain⟨rfl,rfl⟩:=Mg
       simp[Q.run]at i;obtain⟨rfl,rfl⟩:=i
       obtain⟨k1,k2⟩:=tn W JV
       exact Gh (us:= []) U V h (Tr.refl _ _ _ _) I.2 Y Hk.1 Hk.2 F k2 k1
      ·rename_i Mg
       simp only[Q.run_bind]at i
       cases K:(fz (bx&&sp== .S) iG (st.rho D)).run st.get st.sh.length with
       |none=>simp[K]at i
       |some p=>
        obtain⟨t',us⟩:=p
        simp only[K,Option.bind_some]at i
        split at i
        ·simp[Q.run]at i
        ·rename_i Z
         simp at Z
         obtain⟨⟨N,r⟩,O⟩:=Z
         simp[Q.run]at i;obtain⟨rfl,rfl⟩:=i
         obtain⟨M',q1,q2,q3,H,q5⟩:=Bk _ st iG (st.rho D) B st w β M _ t' us _ (Fz.refl st) h W K
         have IF:(st.ups us).get sp k=⟨ge,.cells cs wm bx⟩:=by rw[qh st us sp k N];exact Y
         refine Gh (us:=us) U V q1 (Tr.fz q2 q3) I.2 IF Hk.1 Hk.2 O ?_ ?_
         ·exact(tn H.toV r).2
         ·cases bx with
          |false=>
           simp only[Bool.false_and]at H
           exact(yB H r).1
          |true=>
           cases sp with
           |L=>simp at Mg
           |S=>
            simp only[Bool.true_and,beq_self_eq_true]at H
            rw[q2.gens]
            exact fun iP G' p q=>(tn (H iP G' p q) r).1
     ·simp[Q.run]at i
   ·simp[Q.run]at i
  ·simp[Q.run]at i
end
end Go.Ev
namespace Go.Ev
open Go
section
variable{P:Program}{B:lZ}{st:St}{a:Act}{w:World}{β:iL}{M:iB}{o:Oper}{v:T}{ups:List Up}
variable(kU:pD β st.gens w M st.rho a.eval)(h:iS B st w β M)
theorem Mh{t O Z:TypeId}{ek:EK}{m:Option Nat}{es:Array MapEntry}{F:Nat}{ks vs:List T}{k z r:T}{kv U:Value}{K:Bool}(ht:P.underlying t=some (.map O Z))(hk:keyOf P O=some ek)
  (hm:(m=none∧es= #[])∨ ∃H,m=some H∧w.heap[H]? =some (.map es F)) (N:PList w M ks (es.toList.map (·.key))) (Oy:PList w M vs (es.toList.map (·.val))) (J:fy β st.gens w M k kv) (hz:(zeroValue Z).run P w= .ok U w) (hzr:PRel w M z U)
  (I:nz ek ks vs k z K=some r): ∃cv,(Instr.lookup t (.map m) kv K).run P w= .ok cv w∧fy β st.gens w M r cv:=by
 unfold nz at I
 split at I
 ·cases I
 ·rename_i Ov
  simp at Ov
  have Bn:(Instr.checkKey es.isEmpty 10000 O kv).run P w= .ok () w:=Bo (P:=P) hk J Ov 9998 es.isEmpty
  have V: ∀D,(Instr.findKey O kv es.toList).run P w= .ok D w→(Instr.lookup t (.map m) kv K).run P w=
    .ok (match D with|some (_,cv)=>if K then .tuple #[cv,.bool true]else cv|none=>if K then .tuple #[U,.bool false]else U) w:=by
   intro D Fk
   unfold Instr.lookup
   rcases hm with⟨rfl,rfl⟩|⟨H,rfl,hb⟩
   ·simp only[Sem.run_bind,run_underlying ht,Result.andThen_ok,Sem.run_pure,Bn,Fk]
    cases D with
    |none=>simp[hz]
    |some p=>simp
   ·have BS:(getObj H).run P w= .ok (.map es F) w:=by simp[getObj,Sem.run,hb]
    simp only[Sem.run_bind,run_underlying ht,Result.andThen_ok,Sem.run_pure,BS,Bn,Fk]
    cases D with
    |none=>simp[hz]
    |some p=>simp
  split at I
  ·rename_i i W
   obtain⟨D,r1,X⟩:=tm (P:=P) hk J es.toList ks _ N W
   obtain⟨e,e1,e2⟩:=X
   simp only[Option.map_eq_some_iff]at I
   obtain⟨v',Y,rfl⟩:=I
   obtain⟨cv,c1,c2⟩:=Oy.get Y
   grind [fy,ig,PRel.toV]
  ·rename_i W
   simp at I;subst I
   obtain⟨D,r1,X⟩:=tm (P:=P) hk J es.toList ks _ N W
   refine⟨_,V D r1, ?_⟩
   have:D=none:=X
   grind [fy,ig,PRel.toV]
  ·cases I
include kU h
theorem ard{d nx:Nat}{t kt et:TypeId}{m k:Operand}{X k':iF}{N:Bool}{ek:EK}{z:T}(ho:o.op= .lookup t m k N)(hm:lU m=some X)(hk:lU k=some k')(ht:P.underlying t=some (.map kt et))(Y:keyOf P kt=some ek)(hz:sx P et=some z)
  (D:(jk d st.rho (.lk ek X k' z N)).run st.get nx=some (.val v ups)):lr P B st a w β M o v ups:=by
 have F:=kU m X hm
 have vk:=kU k k' hk
 obtain⟨zv,z1,z2⟩:=Gf hz w
 have J: ∀(W:Option Nat) (es:Array MapEntry) (i:Nat) (ks H:List T) (r:T),a.eval m= .map W→((W=none∧es= #[])∨ ∃I,W=some I∧w.heap[I]? =some (.map es i))→PList w M ks (es.toList.map (·.key))→PList w M H (es.toList.map (·.val))→
   nz ek ks H (st.rho k') z N=some r→lr P B st a w β M o r []:=by
  intro W es i ks H r Z O U V e5
  obtain⟨cv,r1,r2⟩:=Mh (P:=P) (β:=β) (st:=st) ht Y O U V vk z1 (z2 w M) e5
  exact iM h (cv:=cv) (by simp[execOp,ho,Z,r1]) r2
 simp only[jk]at D
 split at D
 ·rename_i e
  rw[e]at F;simp only[fy]at F
  split at D
  ·rename_i Ov
   simp[Q.run]at D;obtain⟨rfl,rfl⟩:=D
   exact J none #[] 0 [] [] _ F (.inl ⟨rfl,rfl⟩) (by simp[PList]) (by simp[PList]) (by simp[nz,Ov,m7])
  ·simp[Q.run]at D
 ·rename_i ks H e
  rw[e]at F;simp only[fy,PRel]at F
  obtain⟨I,es,i,Z,O,_,_,U,V⟩:=F
  cases K:nz ek ks H (st.rho k') z N with
  |none=>simp[K,Ev.val,Q.run]at D
  |some r=>
   simp[K,Ev.val,Q.run]at D;obtain⟨rfl,rfl⟩:=D
   exact J _ es i ks H _ Z (.inr ⟨I,rfl,O⟩) U V K
 ·rename_i sp kk g e
  rw[e]at F;simp only[fy]at F
  simp only[Q.run]at D
  split at D
  ·rename_i hg
   have BP:=h.obj sp kk
   generalize he:st.get sp kk=en at*
   obtain⟨ge,ob⟩:=en
   dsimp only at hg;subst hg
   cases ob with
   |none=>simp[Q.run]at D
   |cells _ _ _=>simp[Q.run]at D
   |map ks H f=>
    dsimp only at D
    unfold kW at BP
    obtain⟨es,i,O,_,U,V,_⟩:=BP
    cases K:nz ek ks H (st.rho k') z N with
    |none=>simp[K,Ev.val,Q.run]at D
    |some r=>
     simp[K,Ev.val,Q.run]at D;obtain⟨rfl,rfl⟩:=D
     exact J _ es i ks H _ F.2 (.inr ⟨_,rfl,O⟩) U V K
  ·simp[Q.run]at D
 ·simp[Q.run]at D
omit kU h
theorem PList.set{ts:List T}{r:List Value}(i:Nat){t:T}{cv:Value}(h:PList w M ts r)(D:PRel w M t cv):PList w M (ts.set i t) (r.set i cv):=by
 induction ts generalizing r i with
 |nil=>grind [PList]
 |cons x xs ih=>
  simp only[PList]at h
  obtain⟨u,us,rfl,F,H⟩:=h
  cases i with
  |zero=>grind [PList]
  |succ i=>grind [PList]
theorem wE{c:CK}{x y:T}{r D:Value}(hx:fy β st.gens w M x r)(i:fy β st.gens w M y D)(h:lL c x y=some true)(n:Nat):Instr.sameBits n D r=true:=by
 unfold lL at h
 split at h
 ·simp at h;subst h;rw[hx.bool,i.bool];simp[Instr.sameBits]
 ·split at h
  ·rename_i e;subst e;simp at h;subst h;rw[hx.int,i.int];simp[Instr.sameBits]
  ·cases h
 ·simp at h;subst h
  obtain⟨F,H,I⟩:=hx.str
  obtain⟨J,K,N⟩:=i.str
  rw[H,K]
  have:(J==F)=true:=by
   rw[beq_toListBytes,←mN,←kH,←kH,I,N];simp
  grind [Instr.sameBits]
 ·cases h
theorem uH: ∀{ks:List CK} {xs i:List T} {r D:List Value},ig β st.gens w M xs r→ig β st.gens w M i D→jK ks xs i=some true→ ∀n,r.length=D.length∧((D.zip r).all fun p=>Instr.sameBits n p.1 p.2)=true
 | [],xs,i,r,D,hx,F,h,n=>by
   cases xs <;> cases i <;> simp[jK]at h
   simp_all[ig]
 |k::ks,xs,i,r,D,hx,F,h,n=>by
  cases xs with
  |nil=>grind [jK]
  |cons x xs=>
   cases i with
   |nil=>simp[jK]at h
   |cons y i=>
    simp only[ig]at hx F
    obtain⟨u,us,rfl,H,I⟩:=hx
    obtain⟨N,J,rfl,Du,Oz⟩:=F
    simp only[jK]at h
    cases hc:lL k x y with
    |none=>simp[hc]at h
    |some b=>
     cases b with
     |false=>simp[hc]at h
     |true=>
      simp only[hc]at h
      obtain⟨O,K⟩:=uH I Oz h n
      simp only[List.length_cons,List.zip_cons_cons,List.all_cons,Bool.and_eq_true]
      exact⟨by omega,wE H Du hc n,K⟩
theorem Hl{ek:EK}{x y:T}{r D:Value}(F:(∃c,ek= .one c)∨ ∃ks,ek= .flat ks)(hx:fy β st.gens w M x r)(i:fy β st.gens w M y D)(h:vz ek x y=some true)(n:Nat):Instr.sameBits (n+1) D r=true:=by
 rcases F with⟨c,rfl⟩|⟨ks,rfl⟩
 ·exact wE hx i h _
 ·unfold vz at h
  split at h <;> simp_all
  rename_i xs J
  simp only[fy]at hx i
  obtain⟨K,rfl,H,_⟩:=hx
  obtain⟨N,rfl,I,_⟩:=i
  obtain⟨O,U⟩:=uH H I h n
  simp_all[Instr.sameBits,Bool.and_eq_true]
theorem JZ{ek:EK}{k:T}: ∀{ks:List T} {i:Nat},m7 ek k ks=some (some i)→ ∃x,ks[i]? =some x∧vz ek k x=some true
 | [],i,h=>by simp[m7]at h
 |x::xs,i,h=>by
  simp only[m7]at h
  split at h
  ·grind
  ·simp only[Option.map_eq_some_iff]at h
   obtain⟨r,F,D⟩:=h
   cases r with
   |none=>simp at D
   |some j=>
    simp at D;subst D
    simp_all[JZ]
  ·cases h
theorem Br{c:CK}{x y:T}{F H:Value}(hx:fy β st.gens w M x F)(i:fy β st.gens w M y H)(h:lL c x y=some true):F=H:=by
 unfold lL at h
 split at h
 ·simp at h;subst h;rw[hx.bool,i.bool]
 ·split at h
  ·rename_i e;subst e;simp at h;subst h;rw[hx.int,i.int]
  ·cases h
 ·simp at h;subst h
  obtain⟨r,I,J⟩:=hx.str
  obtain⟨D,K,N⟩:=i.str
  rw[I,K]
  have O:bytesN r=bytesN D:=J.trans N.symm
  have U:r.data.toList=D.data.toList:=(List.map_inj_right (f:=UInt8.toNat) (fun _ _ h=>UInt8.toNat_inj.1 h)).1 O
  have V:r=D:=ByteArray.ext (Array.toList_inj.1 U)
  rw[V]
 ·cases h
theorem yH: ∀{ks:List CK} {xs i:List T} {r D:List Value},ig β st.gens w M xs r→ig β st.gens w M i D→jK ks xs i=some true→r=D
 | [],xs,i,r,D,hx,F,h=>by
   grind [jK,ig]
 |k::ks,xs,i,r,D,hx,F,h=>by
  cases xs with
  |nil=>grind [jK]
  |cons x xs=>
   cases i with
   |nil=>simp[jK]at h
   |cons y i=>
    simp only[ig]at hx F
    obtain⟨u,us,rfl,H,I⟩:=hx
    obtain⟨K,J,rfl,Du,Oz⟩:=F
    simp only[jK]at h
    cases hc:lL k x y with
    |none=>simp[hc]at h
    |some b=>
     cases b with
     |false=>simp[hc]at h
     |true=>
      simp only[hc]at h
      rw[Br H Du hc,yH I Oz h]
theorem UT{ek:EK}{x y:T}{r D:Value}(F:(∃c,ek= .one c)∨ ∃ks,ek= .flat ks)(hx:fy β st.gens w M x r)(i:fy β st.gens w M y D)(h:vz ek x y=some true):r=D:=by
 rcases F with⟨c,rfl⟩|⟨ks,rfl⟩
 ·exact Br hx i h
 ·unfold vz at h
  split at h <;> simp_all
  rename_i xs J
  simp only[fy]at hx i
  obtain⟨K,rfl,H,_⟩:=hx
  obtain⟨N,rfl,I,_⟩:=i
  have:=yH H I h
  simp_all
theorem yI{c:CK}{x y:T}{v:Value}(hx:fy β st.gens w M x v)(i:fy β st.gens w M y v)(h:lL c x y=some false):False:=by
 unfold lL at h
 split at h
 ·have e:=hx.bool;rw[i.bool]at e;cases e;simp at h
 ·split at h
  ·rename_i e;subst e
   have e:=hx.int;rw[i.int]at e;cases e;simp at h
  ·cases h
 ·obtain⟨r,D,F⟩:=hx.str
  obtain⟨H,I,J⟩:=i.str
  grind
 ·cases h
theorem wF: ∀{ks:List CK} {xs i:List T} {v:List Value},ig β st.gens w M xs v→ig β st.gens w M i v→jK ks xs i=some false→False
 | [],xs,i,v,hx,r,h=>by
   grind [jK]
 |k::ks,xs,i,v,hx,r,h=>by
  cases xs with
  |nil=>grind [jK]
  |cons x xs=>
   cases i with
   |nil=>simp[jK]at h
   |cons y i=>
    simp only[ig]at hx r
    obtain⟨u,us,rfl,D,F⟩:=hx
    obtain⟨I,H,e,Du,Oz⟩:=r
    cases e
    simp only[jK]at h
    cases hc:lL k x y with
    |none=>simp[hc]at h
    |some b=>
     cases b with
     |false=>exact yI D Du hc
     |true=>
      simp only[hc]at h
      exact wF F Oz h
theorem QX{ek:EK}{x y:T}{v:Value}(r:(∃c,ek= .one c)∨ ∃ks,ek= .flat ks)(hx:fy β st.gens w M x v)(i:fy β st.gens w M y v)(h:vz ek x y=some false):False:=by
 rcases r with⟨c,rfl⟩|⟨ks,rfl⟩
 ·exact yI hx i h
 ·unfold vz at h
  split at h <;> simp_all
  rename_i xs H
  simp only[fy]at hx i
  obtain⟨I,rfl,D,_⟩:=hx
  obtain⟨J,e,F,_⟩:=i
  cases e
  exact wF D F h
theorem Dv{ek:EK}{k:T}: ∀{ks:List T},m7 ek k ks=some none→ ∀x∈ks,vz ek k x=some false
 | [],h,x,hx=>by simp at hx
 |y::H,h,x,hx=>by
  simp only[m7]at h
  split at h
  ·simp at h
  ·rename_i i
   simp only[Option.map_eq_some_iff]at h
   obtain⟨r,D,F⟩:=h
   cases r with
   |some j=>simp at F
   |none=>
    rcases List.mem_cons.1 hx with rfl|hx
    ·exact i
    ·exact Dv D x hx
  ·cases h
theorem PList.getV{w:World}{M:iB}: ∀{ts:List T} {i:List Value},PList w M ts i→ ∀{j:Nat} {v:Value},i[j]? =some v→ ∃t,ts[j]? =some t∧PRel w M t v
 | [],i,h,j,v,r=>by grind [PList]
 |x::xs,i,h,j,v,r=>by
  simp only[PList]at h
  obtain⟨u,us,rfl,I,D⟩:=h
  cases j with
  |zero=>grind
  |succ j=>obtain⟨t,F,H⟩:=PList.getV D (j:=j) (v:=v) (by simpa using r);exact⟨t,by simpa using F,H⟩
theorem afj(h:iS B st w β M){sp:Sp}{k g:Nat}{ks vs:List T}(N:st.get sp k=⟨g,.map ks vs false⟩)(J0:Array MapEntry)(D:Nat)(O:MapKept.Stamped J0 D)(i K:List T)(hk:PList w M i (J0.toList.map (·.key)))(hv:PList w M K (J0.toList.map (·.val))):
  iS B (st.up (sp,k,⟨g,.map i K false⟩)) (setBlock w (β sp k g).blk (.map J0 D)) β M∧Tr st w β M (st.up (sp,k,⟨g,.map i K false⟩)) (setBlock w (β sp k g).blk (.map J0 D)) β M:=by
 have U:st.gens sp k=g:=by show(st.get sp k).g=g;rw[N]
 have F:live (st.get sp k):=by rw[N];trivial
 have V:=h.obj sp k
 rw[N]at V
 unfold kW at V
 obtain⟨es,W,Y,_,h2,h3,Z⟩:=V
 dsimp only at Y Z
 have X:=rv Y
 have r:kQ w M (setBlock w (β sp k g).blk (.map J0 D)) M:=by
  refine⟨fun b x u hu H=> ?_,fun b es cl hu H=> ?_,fun _ _ _ h=>h⟩
  ·by_cases I:b=(β sp k g).blk
   ·grind
   ·rw[n4 (w:=w) (by rw[kG,if_neg (fun e=>I e.1)])];exact hu
  ·by_cases I:b=(β sp k g).blk
   ·simp_all
   ·grind [kG]
 have J:=Oj (M':=M) h sp k g (.map i K false) F (Nat.le_of_eq U) (.map J0 D) (fun _ _ H=>H) (fun _ _ _ H=>H) (by rw[U];exact r) (h.base F)
 rw[U,sC]at J
 refine J ?_
 exact⟨J0,D,by rw[kG,if_pos ⟨rfl,X⟩],O,PList.mono r _ _ hk,PList.mono r _ _ hv,Z⟩
include kU h
theorem are{d:Nat}{t kt et:TypeId}{m k x:Operand}{m' k' Y:iF}{ek:EK}(ho:o.op= .mapUpdate t m k x)(hm:lU m=some m')(hk:lU k=some k')(hx:lU x=some Y)(ht:P.underlying t=some (.map kt et))(H:keyOf P kt=some ek)
  (r:(jk d st.rho (.mu ek m' k' Y)).run st.get st.sh.length=some (.val v ups)):lr P B st a w β M o v ups:=by
 have vm:=kU m m' hm
 have vk:=kU k k' hk
 have vx:=kU x Y hx
 simp only[jk]at r
 split at r
 ·rename_i sp kk g e
  rw[e]at vm;simp only[fy]at vm
  simp only[Q.run]at r
  split at r
  ·rename_i Z
   simp at Z
   obtain⟨Z,Ov⟩:=Z
   generalize he:st.get sp kk=en at*
   obtain⟨ge,ob⟩:=en
   dsimp only at Z;subst Z
   split at r
   ·rename_i ks J heq
    dsimp only at heq;subst heq
    simp only[Q.run_bind]at r
    cases hz:(fz false iG (st.rho Y)).run st.get st.sh.length with
    |none=>simp[hz]at r
    |some p=>
     obtain⟨t',us⟩:=p
     simp only[hz,Option.bind_some]at r
     split at r
     ·rename_i q N
      split at r
      ·simp[Q.run]at r
      ·rename_i hh
       simp at hh
       simp[Q.run]at r;obtain⟨rfl,rfl⟩:=r
       obtain⟨M',q1,q2,q3,q4,q5⟩:=Bk _ st iG (st.rho Y) B st w β M _ t' us _ (Fz.refl st) h vx hz
       have q4':PRel w M' t' (a.eval x):=q4
       have IF:(st.ups us).get sp kk=⟨ge,.map ks J false⟩:=by rw[qh st us sp kk hh];exact he
       have BP:=q1.obj sp kk
       rw[IF]at BP
       unfold kW at BP
       obtain⟨es,clock,e2,nF,X,e4,_⟩:=BP
       dsimp only at e2
       have Zx:fy β st.gens w M' (st.rho k') (a.eval k):=fy.mono (kz q3) (fun _ _ _ _=>rfl) (fun _ _=>Nat.le_refl _) _ _ vk
       have Bn:(Instr.checkKey false 10000 kt (a.eval k)).run P w= .ok () w:=Bo (P:=P) H Zx Ov 9998 false
       obtain⟨_,rz⟩:=Hg H
       have kp:PRel w M' (st.rho k') (a.eval k):=by
        generalize st.rho k'=tk at*
        cases tk <;> rcases rz with⟨c,rfl⟩|⟨cs,rfl⟩ <;> (try (cases c)) <;> simp[isKey,Ha]at Ov
        all_goals first
         |(simp only[fy]at Zx;simp only[PRel];exact Zx;done)
         |skip
        rename_i xs
        simp only[fy]at Zx
        obtain⟨arr,e5,l5,s5⟩:=Zx
        simp only[PRel]
        refine⟨arr,e5, ?_,s5⟩
        have: ∀(cs:List CK) (xs:List T) (J:List Value),qg cs xs=true→ig β st.gens w M' xs J→PList w M' xs J:=by
         intro cs
         induction cs with
         |nil=>intro xs J hc hv;cases xs <;> simp[qg]at hc;simpa only[ig,PList]using hv
         |cons c cs ih=>
          intro xs J hc hv
          cases xs with
          |nil=>simp[qg]at hc
          |cons x xs=>
           simp only[qg,Bool.and_eq_true]at hc
           simp only[ig]at hv;simp only[PList]
           obtain⟨u,us,rfl,w1,w2⟩:=hv
           refine⟨u,us,rfl, ?_,ih xs us hc.2 w2⟩
           cases c <;> cases x <;> simp[Ha]at hc <;> simp only[fy]at w1 <;> simp only[PRel] <;> exact w1
        exact this _ _ _ Ov l5
       have run: ∀(D:Option (Nat×Value)) (J0:Array MapEntry) (qL:Nat),(Instr.findKey kt (a.eval k) es.toList).run P w= .ok D w→
         (match D with
           |some (i,_)=>do
            let key ←Instr.keyThatStays (((es[i]?).map (fun e:MapEntry=>e.key)).getD (a.eval k)) (a.eval k)
            setObj (β sp kk ge).blk (.map (es.modify i fun e=>{e with key,val:=a.eval x}) clock)
           |none=>setObj (β sp kk ge).blk (.map (es.push {key:=a.eval k,val:=a.eval x,born:=clock}) (clock+1))).run P w= .ok () (setBlock w (β sp kk ge).blk (.map J0 qL))→
         (execOp a.eval o).run P w= .ok .skip (setBlock w (β sp kk ge).blk (.map J0 qL)):=by
        intro D J0 qL Fk J1
        have:(Instr.mapUpdate t (.map (some (β sp kk ge).blk)) (a.eval k) (a.eval x)).run P w= .ok () (setBlock w (β sp kk ge).blk (.map J0 qL)):=by
         unfold Instr.mapUpdate
         simp only[Sem.run_bind,run_underlying ht,Result.andThen_ok]
         have BS:(getObj (β sp kk ge).blk).run P w= .ok (.map es clock) w:=by simp[getObj,Sem.run,e2]
         simp only[BS,Result.andThen_ok,Sem.run_bind,Bn,Fk]
         cases D with
         |none=>exact J1
         |some p=>exact J1
        simp[execOp,ho,vm.2,this]
       have J1: ∀(J0:Array MapEntry) (c':Nat),(setObj (β sp kk ge).blk (.map J0 c')).run P w= .ok () (setBlock w (β sp kk ge).blk (.map J0 c')):=by
        intro J0 c';simp[setObj,Sem.run,e2,setBlock]
       unfold qE at N
       split at N
       ·rename_i i hf
        simp at N;subst N
        obtain⟨D,r1,e,K,r3⟩:=tm (P:=P) H Zx es.toList ks _ X hf
        obtain⟨kx,O,F⟩:=JZ hf
        obtain⟨kcv,I,kc2⟩:=X.get O
        rw[List.getElem?_map,K]at I
        simp at I
        have UU:=Hl (β:=β) (st:=st) rz Zx (PRel.toV β st.gens _ _ kc2) F 9999
        have hei:es[i]? =some e:=by simpa using K
        simp only[Nat.zero_add]at r3
        have hkt:(Instr.keyThatStays (((es[i]?).map (fun e:MapEntry=>e.key)).getD (a.eval k)) (a.eval k)).run P w= .ok (a.eval k) w:=by
         rw[hei];simp only[Option.map_some,Option.getD_some,I]
         unfold Instr.keyThatStays
         rw[if_pos UU];rfl
        obtain⟨U,V⟩:=afj q1 IF (es.modify i fun e=>{e with key:=a.eval k,val:=a.eval x}) clock (MapKept.stamped_modify nF i _ (fun _ _=>rfl) (fun e' _ Zv=>by
         have hh:e'=e:=by rw[hei]at Zv;exact(Option.some.inj Zv).symm
         subst hh
         exact(UT rz Zx (PRel.toV β st.gens _ _ kc2) F).trans I.symm)) (ks.set i (st.rho k')) (J.set i t') (by
         have:=PList.set i X kp
         have e5:(es.modify i fun e=>{e with key:=a.eval k,val:=a.eval x}).toList.map (·.key)=(es.toList.map (·.key)).set i (a.eval k):=by
          apply List.ext_getElem?;intro j
          rw[Array.toList_modify,List.getElem?_map,List.getElem?_modify,List.getElem?_set,List.getElem?_map]
          by_cases W:i=j
          ·subst W;rw[K];simp;exact(List.getElem?_eq_some_iff.1 K).1
          ·simp[W]
         rw[e5];exact this) (by
         have:=PList.set i e4 q4'
         have e5:(es.modify i fun e=>{e with key:=a.eval k,val:=a.eval x}).toList.map (·.val)=(es.toList.map (·.val)).set i (a.eval x):=by
          apply List.ext_getElem?;intro j
          rw[Array.toList_modify,List.getElem?_map,List.getElem?_modify,List.getElem?_set,List.getElem?_map]
          by_cases W:i=j
          ·subst W;rw[K];simp;exact(List.getElem?_eq_some_iff.1 K).1
          ·simp[W]
         rw[e5];exact this)
        refine⟨.skip,undef,_,β,M',run D _ clock r1 ?_,.inr ⟨rfl,rfl⟩,by rw[kR];exact U,by rw[kR];exact(Tr.fz q2 q3).trans V (Nat.le_refl _),by rw[ll];exact Nat.le_refl _,by simp[fy,iT,undef,ig]⟩
        subst r3
        simp only[Sem.run_bind,hkt,Result.andThen_ok]
        exact J1 _ _
       ·rename_i hf
        simp at N;subst N
        obtain⟨D,r1,K⟩:=tm (P:=P) H Zx es.toList ks _ X hf
        have:D=none:=K
        subst this
        obtain⟨U,V⟩:=afj q1 IF (es.push {key:=a.eval k,val:=a.eval x,born:=clock}) (clock+1) (MapKept.stamped_push nF (fun y hy Zv=>by
         obtain⟨j,W⟩:=List.getElem?_of_mem hy
         obtain⟨kx,O,F⟩:=X.getV (j:=j) (v:=y.key) (by rw[List.getElem?_map,W];rfl)
         rw[Zv]at F
         exact QX rz Zx (PRel.toV β st.gens _ _ F) (Dv hf _ (List.mem_of_getElem? O)))) (ks++ [st.rho k']) (J++ [t']) (by
         simp only[Array.toList_push,List.map_append,List.map_cons,List.map_nil]
         exact PList.append X (by simp only[PList];exact⟨_,_,rfl,kp,rfl⟩)) (by
         simp only[Array.toList_push,List.map_append,List.map_cons,List.map_nil]
         exact PList.append e4 (by simp only[PList];exact⟨_,_,rfl,q4',rfl⟩))
        exact⟨.skip,undef,_,β,M',run none _ (clock+1) r1 (J1 _ _),.inr ⟨rfl,rfl⟩,by rw[kR];exact U,by rw[kR];exact(Tr.fz q2 q3).trans V (Nat.le_refl _),by rw[ll];exact Nat.le_refl _,by simp[fy,iT,undef,ig]⟩
       ·cases N
     ·simp[Q.run]at r
   ·simp[Q.run]at r
  ·simp[Q.run]at r
 ·simp[Q.run]at r
end
end Go.Ev
namespace Go.Ev
open Go
theorem Gi(Ax:Nat): ∀(r c:Nat),c≤Ax+(Ax+768)/4→Builtin.growBy Ax r c≤Ax+(Ax+768)/4
 |0,c,h=>by simpa[Builtin.growBy]using h
 |r+1,c,h=>by
  simp only[Builtin.growBy]
  split
  ·exact h
  ·exact Gi Ax r _ (by omega)
theorem aax(Hm Zw:Nat)(h:Zw<Hm):Builtin.nextslicecap Hm Zw≤2*Hm+192:=by
 grind [Builtin.nextslicecap,Gi]
theorem QY{Hm Zw bytes:Nat}(h:Zw<Hm)(i:Hm*bytes≤1099511627776)(r:bytes≠0):Builtin.nextslicecap Hm Zw*bytes≤281474976710656:=by
 have D:=Nat.mul_le_mul_right bytes (aax Hm Zw h)
 have F:bytes≤Hm*bytes:=Nat.le_mul_of_pos_left bytes (by omega)
 grind
section
variable{P:Program}{B:lZ}{st:St}{a:Act}{w:World}{β:iL}{M:iB}{o:Oper}{v:T}{ups:List Up}
theorem Fo(h:iS B st w β M){sz nx n:Nat}{x:T}{cx:Value}{xs:List T}(I:fy β st.gens w M x cx)(i:(jL sz x).run st.get nx=some (n,xs)):
  ∃news:List Value,(∀w':World,w'.heap=w.heap→(Builtin.lenOf cx).run P w'= .ok n w'∧(Builtin.firstCells sz n cx).run P w'= .ok news.toArray w')∧PList w M xs news∧xs.all single=true∧xs.length=n*sz:=by
 unfold jL at i
 split at i
 ·simp[Q.run]at i;obtain⟨rfl,rfl⟩:=i
  simp_all[fy,Builtin.lenOf,Builtin.firstCells,PList]
 ·rename_i cs len ex
  split at i
  ·rename_i K
   simp[Q.run]at i;obtain⟨rfl,rfl⟩:=i
   simp only[fy,PRel]at I
   obtain⟨N,off,O,sp,rfl,U,Z,h5,V⟩:=I
   obtain⟨W,J,e2,e3,e4⟩:=PCells.load (P:=P) V
   refine⟨W,fun w' hw=>⟨by simp[Builtin.lenOf], ?_⟩,e3,e4,K⟩
   have:=run_loadCells_list (P:=P) w' ⟨N,off,sp⟩ W (fun j u D=>by
    rcases h5 with h5|h5
    ·grind [World.cell?,kY]
    ·exfalso
     have hz:len=0:=by omega
     have h0:W= []:=List.length_eq_zero_iff.1 (by rw[J,K,hz,Nat.zero_mul])
     subst h0;simp at D)
   rw[J,K]at this
   simp[Builtin.firstCells,this]
  ·simp[Q.run]at i
 ·rename_i sp k g off len F
  split at i
  ·rename_i X
   subst X
   simp only[Q.run]at i
   split at i
   ·rename_i hg
    have BP:=h.obj sp k
    generalize he:st.get sp k=en at*
    obtain⟨ge,ob⟩:=en
    dsimp only at hg;subst hg
    cases ob with
    |none=>simp[Q.run]at i
    |map _ _ _=>simp[Q.run]at i
    |cells cs wm bx=>
     cases bx with
     |true=>simp[Q.run]at i
     |false=>
      dsimp only at i
      split at i
      ·rename_i hle
       simp[Q.run]at i;obtain⟨rfl,rfl⟩:=i
       unfold kW at BP
       obtain⟨c,el,fz,U,Z,V,h4,h5,h6,h7,h8⟩:=BP
       dsimp only at U Z V h5
       simp only[fy]at I
       obtain⟨q1,O,rfl,q2,q3⟩:=I
       have UI:=PList.take (len*F) (PList.drop off h5)
       rw[List.drop_take,List.drop_drop,List.take_take]at UI
       have Y:min (len*F) (cs.length-off)=len*F:=by omega
       rw[Y]at UI
       have r:((cs.drop off).take (len*F)).length=len*F:=by simp;omega
       refine⟨(c.toList.drop ((β sp k ge).off+off)).take (len*F),fun w' hw=>⟨by simp[Builtin.lenOf], ?_⟩,UI,nj h7 _ _,r⟩
       have Mi:=PList.length _ _ UI
       rw[r]at Mi
       have:=run_loadCells_list (P:=P) w' ⟨(β sp k ge).blk,(β sp k ge).off+off,none⟩ ((c.toList.drop ((β sp k ge).off+off)).take (len*F)) (fun j u D=>by
        rw[kY]
        rw[List.getElem?_take]at D
        split at D
        ·rw[List.getElem?_drop]at D
         unfold World.cell?;rw[hw,U];simpa using D
        ·cases D)
       rw[←Mi]at this
       simp[Builtin.firstCells,this]
      ·simp[Q.run]at i
   ·simp[Q.run]at i
  ·simp[Q.run]at i
 ·rename_i l
  split at i
  ·rename_i X
   subst X
   simp[Q.run]at i;obtain⟨rfl,rfl⟩:=i
   obtain⟨H,rfl,rfl⟩:=I.str
   refine⟨H.data.toList.map fun b=> .int .u8 b.toNat,fun w' _=>⟨by simp[Builtin.lenOf,mB], ?_⟩, ?_, ?_,by simp⟩
   ·have J:(H.extract 0 H.size).data=H.data:=by
     apply Array.ext'
     rw[ByteArray.data_extract,Array.toList_extract,List.extract_eq_take_drop]
     rw[List.drop_zero]
     exact List.take_of_length_le (by show H.data.toList.length≤H.data.size-0;simp)
    simp only[Builtin.firstCells,mB,J,Sem.run_pure]
    congr 1
    apply Array.ext';simp
   ·unfold bytesN
    rw[List.map_map]
    generalize H.data.toList=l
    induction l with
    |nil=>simp[PList]
    |cons b l ih=>simp only[List.map_cons,PList];exact⟨_,_,rfl,by simp[PRel],ih⟩
   ·rw[List.all_eq_true];intro x hx;simp at hx;obtain⟨_,_,rfl⟩:=hx;rfl
  ·simp[Q.run]at i
 ·simp[Q.run]at i
theorem J2{t u ty e:TypeId}{D:TypeDesc}{i:TypeInfo}{z:Value}(K:P.underlying t=some (.slice e))(N:P.underlying u=some D)(F:D= .string∨ ∃J,D= .slice J)(hi:P.info? e=some i)(O:i.zero=some z)
  {base:Option Addr} {lb ng n:Nat} {cx:Value} {yJ news:List Value} (U:(Builtin.lenOf cx).run P w= .ok n w) (Gj:(Builtin.firstCells i.size n cx).run P w.drew= .ok news.toArray w.drew) (r:(Builtin.firstCells i.size lb (.slice base lb ng)).run P w.drew= .ok yJ.toArray w.drew)
  (V:ng<lb+n) (W:(lb+n)*i.bytes≤1099511627776) (X:i.bytes≠0):
  (Builtin.append_ #[t,u] ty #[.slice base lb ng,cx]).run P w= .ok (.slice (some ⟨w.heap.size,0,none⟩) (lb+n) (grownCap w (lb+n) ng e))
     (w.drew.alloc (.cells (yJ.toArray++news.toArray++Builtin.zeroCells z.cells (grownCap w (lb+n) ng e-(lb+n))) e)):=by
 have H: ¬(lb+n≤ng):=by omega
 have Y:lb+n≤(lb+n)*i.bytes:=Nat.le_mul_of_pos_right _ (by omega)
 have BT: ¬(9223372036854775807<((lb:Int)+(n:Int))):=by omega
 have I: ¬(281474976710656<Builtin.nextslicecap (lb+n) ng*i.bytes):=by have:=QY V W X;omega
 rcases F with rfl|⟨J,rfl⟩ <;>
 ·simp[Builtin.append_,run_underlying K,run_underlying N,sizeOf,typeInfo,zeroValue,hi,O,U,H,BT,I,Question.forced,Gj,r,newRow,grownCap]
  grind
theorem uI{t u ty e:TypeId}{D:TypeDesc}{i:TypeInfo}(H:P.underlying t=some (.slice e))(I:P.underlying u=some D)(F:D= .string∨ ∃J,D= .slice J)(hi:P.info? e=some i)
  {base:Option Addr} {lb ng n:Nat} {cx:Value} {news:List Value} {w':World} (K:(Builtin.lenOf cx).run P w= .ok n w) (Gj:(Builtin.firstCells i.size n cx).run P w= .ok news.toArray w)
  (N:lb+n≤ng) (r:match base with|some ad=>(storeCells (ad.add (lb*i.size)) news).run P w= .ok () w'|none=>w'=w):
  (Builtin.append_ #[t,u] ty #[.slice base lb ng,cx]).run P w= .ok (.slice base (lb+n) ng) w':=by
 rcases F with rfl|⟨J,rfl⟩ <;>
 ·cases base with
  |none=>
   dsimp only at r;subst r
   simp[Builtin.append_,run_underlying H,run_underlying I,sizeOf,typeInfo,hi,K,N,Gj]
  |some ad=>
   dsimp only at r
   simp[Builtin.append_,run_underlying H,run_underlying I,sizeOf,typeInfo,hi,K,N,Gj,r]
theorem aay{bx:Bool}(h:iS B st w β M)(el:TypeId)(c:Array Value)(cs:List T)(wm:Nat)(sp:Sp)(k g:Nat)(r:st.gens sp k<g)
  (D:PList w M cs (c.toList.take cs.length)) (hs:cs.all single=true) (i:cs.length≤c.size) (Hk:wm≤cs.length):
  iS B (st.up (sp,k,⟨g,.cells cs wm bx⟩)) (w.alloc (.cells c el)) (ni β sp k g ⟨w.heap.size,0,c.size⟩) (fun b x=>M b x∨b=w.heap.size)∧
  Tr st w β M (st.up (sp,k,⟨g,.cells cs wm bx⟩)) (w.alloc (.cells c el)) (ni β sp k g ⟨w.heap.size,0,c.size⟩) (fun b x=>M b x∨b=w.heap.size):=by
 refine UF h sp k g r (.cells c el) c.size (.cells cs wm bx) ?_
 unfold kW
 simp only[jA]
 refine⟨c,el,(0,0),by rw[heap_alloc,if_pos rfl],by omega,i,rfl, ?_,fun j _ _=>Or.inr (by trivial),hs,Hk⟩
 simp only[List.drop_zero]
 exact pz.ofP (PList.mono (th w M _) _ _ D)
variable(kU:pD β st.gens w M st.rho a.eval)(h:iS B st w β M)
include kU h
theorem ahw{d:Nat}{sh nm:Bool}{c:Call}{t u e:TypeId}{ud:TypeDesc}{i:TypeInfo}{z:Value}{s x:Operand}{s' x':iF}(ho:o.op= .call c)(hb:c.callee= .builtin .append)(yK:c.argTypes.toList= [t,u])(has:c.args.toList= [s,x])
  (ht:P.underlying t=some (.slice e)) (H:P.underlying u=some ud) (W:ud= .string∨ ∃e',ud= .slice e') (hi:P.info? e=some i) (hz:i.zero=some z) (ph:i.size=z.cells.size) (h0:i.size≠0) (hby:i.bytes≠0) (hs:lU s=some s') (hx:lU x=some x')
  (r:(jk d st.rho (.app i.size i.bytes s' x' sh nm)).run st.get st.sh.length=some (.val v ups)):lr P B st a w β M o v ups:=by
 have V:=kU s s' hs
 have vx:=kU x x' hx
 have zS:c.argTypes= #[t,u]:=by apply Array.ext';simp[yK]
 have K: ∀cv w',(Builtin.append_ #[t,u] o.type #[a.eval s,a.eval x]).run P w= .ok cv w'→(execOp a.eval o).run P w= .ok (.value cv) w':=by
  intro cv w' hr
  rw[k9 ho hb,aap has,zS]
  simp[builtin,hr]
 simp only[jk,qD,Q.run_bind]at r
 cases m9:(jL i.size (st.rho x')).run st.get st.sh.length with
 |none=>grind
 |some p=>
  obtain⟨n,xs⟩:=p
  simp only[m9,Option.bind_some]at r
  obtain⟨news,Z,n1,n2,n3⟩:=Fo (P:=P) h vx m9
  have J3:news.length=n*i.size:=by rw[←PList.length _ _ n1,n3]
  by_cases Zy:n=0
  ·rw[if_pos Zy]at r
   subst Zy
   have Gj:news= []:=by apply List.eq_nil_of_length_eq_zero;simpa using J3
   subst Gj
   have same: ∀base lb ng,a.eval s= .slice base lb ng→lb≤ng→lr P B st a w β M o (st.rho s') []:=by
    intro base lb ng es hle
    refine iM h (cv:= .slice base lb ng) ?_ (by rw[←es];exact V)
    have:=uI (P:=P) (w:=w) (w':=w) (t:=t) (u:=u) (ty:=o.type) (base:=base) (lb:=lb) (ng:=ng) (cx:=a.eval x) (n:=0) (news:= []) ht H W hi (Z w rfl).1 (Z w rfl).2 (by omega) (by cases base <;> simp[storeCells])
    exact K _ _ (by rw[es];exact this)
   grind [Q.run,fy,PRel]
  ·rw[if_neg Zy]at r
   have hz0:z.cells.size≠0:=by omega
   have N: ∀(bx:Bool) (base:Option Addr) (lb ng:Nat) (yJ:List Value) (X:List T) (sp:Sp) (k g wm:Nat),a.eval s= .slice base lb ng→ng<lb+n→(lb+n)*i.bytes≤1099511627776→PList w M X yJ→X.all single=true→X.length=lb*i.size→
     (Builtin.firstCells i.size lb (.slice base lb ng)).run P w.drew= .ok yJ.toArray w.drew→st.gens sp k<g→wm≤X.length→lr P B st a w β M o (.isl sp k g 0 (lb+n) i.size) [(sp,k,⟨g,.cells (X++xs) wm bx⟩)]:=by
    intro bx base lb ng yJ X sp k g wm es nR I ho1 ho2 ho3 hfc hg Hk
    have hr:=J2 (P:=P) (w:=w) (t:=t) (u:=u) (ty:=o.type) (base:=base) (lb:=lb) (ng:=ng) (cx:=a.eval x) (n:=n) (yJ:=yJ) (news:=news) ht H W hi hz (Z w rfl).1 (Z w.drew rfl).2 hfc nR I hby
    obtain⟨hd1,hd2⟩:=He h (w.drawn+1)
    have hol:yJ.length=lb*i.size:=by rw[←PList.length _ _ ho1,ho3]
    have Dm:=grownCap_ge w (lb+n) ng e
    have hcs:(yJ.toArray++news.toArray++Builtin.zeroCells z.cells (grownCap w (lb+n) ng e-(lb+n))).size=grownCap w (lb+n) ng e*i.size:=by
     rw[Array.size_append,Array.size_append,size_zeroCells]
     simp only[List.size_toArray,hol,J3,←ph]
     rw[←Nat.add_mul,←Nat.add_mul];congr 1;omega
    have D:(X++xs).length=yJ.length+news.length:=by simp[ho3,n3,hol,J3]
    obtain⟨r1,r2⟩:=aay (bx:=bx) hd1 e (yJ.toArray++news.toArray++Builtin.zeroCells z.cells (grownCap w (lb+n) ng e-(lb+n))) (X++xs) wm sp k g hg (by
     have:(yJ.toArray++news.toArray++Builtin.zeroCells z.cells (grownCap w (lb+n) ng e-(lb+n))).toList.take (X++xs).length=yJ++news:=by
      rw[D]
      simp only[Array.toList_append,List.toList_toArray]
      rw[List.take_append_of_le_length (by simp)]
      exact List.take_of_length_le (by simp)
     rw[this]
     exact PList.mono hd2.keep _ _ (PList.append ho1 n1)) (by simp only[List.all_append,Bool.and_eq_true];exact⟨ho2,n2⟩) (by
     rw[hcs,D,hol,J3,←Nat.add_mul];exact Nat.mul_le_mul_right _ Dm) (by simp;omega)
    refine⟨_,_,_,_,_,K _ _ (by rw[es];exact hr),.inl rfl,r1,hd2.trans r2 (Nat.le_refl _), ?_, ?_⟩
    ·show w.heap.size≤(w.heap.push _).size;simp
    ·simp only[fy]
     refine⟨by simp[St.ups,lC],grownCap w (lb+n) ng e, ?_,Dm, ?_⟩
     ·rw[jA]
     ·rw[jA,hcs];exact Nat.le_of_eq (Nat.zero_add _)
   split at r
   ·rename_i es
    rw[es]at V;simp only[fy]at V
    split at r
    ·rename_i I
     unfold roomy at I
     obtain⟨sp,k,g,rfl,rfl,hg,_⟩:=oO r
     have:=N (nm&& !sh) none 0 0 [] [] sp k g 0 V (by omega) (by simpa using I) (by simp[PList]) rfl (by simp) (by simp[Builtin.firstCells]) hg (Nat.zero_le _)
     simpa using this
    ·simp[Q.run]at r
   ·rename_i cs len es
    rw[es]at V;simp only[fy,PRel]at V
    obtain⟨blk,off,F,kJ,e1,e2,e3,e5,e4⟩:=V
    have:=e3 trivial;subst this
    split at r
    ·rename_i I
     simp at I
     unfold roomy at I
     obtain⟨sp,k,g,rfl,rfl,hg,_⟩:=oO r
     obtain⟨ol,f1,f2,f3,f4⟩:=PCells.load (P:=P) e4
     refine N false _ _ _ ol cs sp k g 0 e1 (by omega) I.2 f3 f4 I.1 ?_ hg (Nat.zero_le _)
     have:=run_loadCells_list (P:=P) w.drew ⟨blk,off,kJ⟩ ol (fun j u H=>by
      rcases e5 with e5|e5
      ·subst e5
       rw[kY];have:=f2 j u H;unfold World.cell? at this ⊢; exact this
      ·exfalso
       have h0:ol= []:=List.length_eq_zero_iff.1 (by rw[f1,I.1,e5,Nat.zero_mul])
       subst h0;simp at H)
     rw[f1,I.1]at this
     simp[Builtin.firstCells,this]
    ·simp[Q.run]at r
   ·rename_i sp k g off len sz es
    rw[es]at V;simp only[fy]at V
    obtain⟨q1,F,e1,e2,e3⟩:=V
    split at r
    ·rename_i I
     simp at I
     unfold roomy at I
     obtain⟨⟨rfl,rfl⟩,I⟩:=I
     simp only[Q.run]at r
     split at r
     ·rename_i hg
      have BP:=h.obj sp k
      generalize he:st.get sp k=en at*
      obtain⟨ge,ob⟩:=en
      dsimp only at hg;subst hg
      cases ob with
      |none=>simp[Q.run]at r
      |map _ _ _=>simp[Q.run]at r
      |cells cs wm bx=>
       cases bx with
       |true=>simp[Q.run]at r
       |false=>
        dsimp only at r
        split at r
        ·rename_i D
         simp[Q.run]at r;obtain⟨rfl,rfl⟩:=r
         unfold kW at BP
         obtain⟨J,el,fz,O,h2,h3,h4,h5,h6,h7,h8⟩:=BP
         dsimp only at O h2 h3 h4 h5 h6
         subst h4
         have Gk:st.gens sp k=ge:=by show(st.get sp k).g=ge;rw[he]
         by_cases Mj:len+n≤F
         ·have UW:(len+n)*i.size≤F*i.size:=Nat.mul_le_mul_right _ Mj
          rw[Nat.add_mul]at UW
          have UR:=ig.one (PList.toV β st.gens _ _ n1) n2
          have Y:=run_storeCells_at P (β sp k ge).blk ((β sp k ge).off+len*i.size) el news 0 J w O (by omega) UR
          rw[pV O]at Y
          simp only[Nat.add_zero]at Y
          rw[Dt _ _ _ (by simp;omega)]at Y
          have hr:=uI (P:=P) (w:=w) (t:=t) (u:=u) (ty:=o.type) (base:=some ⟨(β sp k ge).blk,(β sp k ge).off+0,none⟩) (lb:=len) (ng:=F) (cx:=a.eval x) (n:=n) (news:=news) ht H W hi (Z w rfl).1 (Z w rfl).2 Mj (by
           dsimp only;rw[kY];simpa using Y)
          have U:=yG h he (ge+1) (Nat.le_succ _) O (len*i.size) news (cs++xs) (by omega) (by omega) (by simp;omega) (by simp[n3];omega) (by simp only[List.all_append,Bool.and_eq_true];exact⟨h7,n2⟩) (by
           show PList w M _ _
           have h5:PList w M cs _:=h5
           have:(splice (J.toList.drop (β sp k ge).off) (len*i.size) news).take (cs++xs).length=(J.toList.drop (β sp k ge).off).take cs.length++news:=by
            rw[←Dt _ _ _ (by simp;omega),D,List.take_append_of_le_length (by simp[n3,J3];omega)]
            exact List.take_of_length_le (by simp[n3,J3];omega)
           rw[this]
           exact PList.append h5 n1)
          refine⟨_,_,_,_,_,K _ _ (by rw[e1];exact hr),.inl rfl,U.1,U.2,by rw[ll];exact Nat.le_refl _, ?_⟩
          simp only[fy]
          refine⟨by simp[St.ups,lC],F,by rw[jA],Mj,by rw[jA];exact e3⟩
         ·have UI:PList w M cs ((J.toList.drop (β sp k ge).off).take cs.length):=h5
          refine N false _ len F ((J.toList.drop (β sp k ge).off).take cs.length) cs sp k (ge+1) wm e1 (by omega) I UI h7 D.symm ?_ (by rw[Gk];omega) h8
          have Mi:=PList.length _ _ UI
          have:=run_loadCells_list (P:=P) w.drew ⟨(β sp k ge).blk,(β sp k ge).off+0,none⟩ ((J.toList.drop (β sp k ge).off).take cs.length) (fun j u H=>by
           rw[kY]
           rw[List.getElem?_take]at H
           split at H
           ·rw[List.getElem?_drop]at H
            unfold World.cell?
            show(match w.heap[(β sp k ge).blk]? with|some (.cells c _ _)=>if(none:Option Nat).isSome then none else c[(β sp k ge).off+0+j]? |_=>none)=some u
            rw[O];simpa using H
           ·cases H)
          rw[←Mi]at this
          simp only[Builtin.firstCells]
          rw[D]
          exact this
        ·split at r
         ·rename_i Zz
          simp only[Bool.and_eq_true,decide_eq_true_eq]at Zz
          obtain⟨⟨⟨rfl,rfl⟩,D⟩,J4⟩:=Zz
          simp[Q.run]at r;obtain⟨rfl,rfl⟩:=r
          unfold kW at BP
          obtain⟨J,el,fz,O,h2,h3,h4,h5,h6,h7,h8⟩:=BP
          dsimp only at O h2 h3 h4 h5 h6
          subst h4
          have Gk:st.gens sp k=ge:=by show(st.get sp k).g=ge;rw[he]
          have UI:PList w M cs ((J.toList.drop (β sp k ge).off).take cs.length):=h5
          have h5t:PList w M (cs.take (len*i.size)) ((J.toList.drop (β sp k ge).off).take (len*i.size)):=by
           have:=PList.take (len*i.size) UI
           rwa [List.take_take,Nat.min_eq_left (by omega)]at this
          have IG:(cs.take (len*i.size)).length=len*i.size:=by rw[List.length_take];omega
          have yK:(cs.take (len*i.size)).all single=true:=List.all_eq_true.2 fun x hx=>List.all_eq_true.1 h7 x (List.mem_of_mem_take hx)
          by_cases Mj:len+n≤F
          ·have UW:(len+n)*i.size≤F*i.size:=Nat.mul_le_mul_right _ Mj
           rw[Nat.add_mul]at UW
           have UR:=ig.one (PList.toV β st.gens _ _ n1) n2
           have Y:=run_storeCells_at P (β sp k ge).blk ((β sp k ge).off+len*i.size) el news 0 J w O (by omega) UR
           rw[pV O]at Y
           simp only[Nat.add_zero]at Y
           rw[Dt _ _ _ (by simp;omega)]at Y
           have hr:=uI (P:=P) (w:=w) (t:=t) (u:=u) (ty:=o.type) (base:=some ⟨(β sp k ge).blk,(β sp k ge).off+0,none⟩) (lb:=len) (ng:=F) (cx:=a.eval x) (n:=n) (news:=news) ht H W hi (Z w rfl).1 (Z w rfl).2 Mj (by
            dsimp only;rw[kY];simpa using Y)
           have U:=yG h he (ge+1) (Nat.le_succ _) O (len*i.size) news (cs.take (len*i.size)++xs) J4 (by omega) (by rw[List.length_append,IG];omega) (by rw[List.length_append,IG,n3];omega) (by simp only[List.all_append,Bool.and_eq_true];exact⟨yK,n2⟩) (by
            show PList w M _ _
            have:(splice (J.toList.drop (β sp k ge).off) (len*i.size) news).take (cs.take (len*i.size)++xs).length=(J.toList.drop (β sp k ge).off).take (len*i.size)++news:=by
             have hl9:len*i.size+news.length≤(J.toList.drop (β sp k ge).off).length:=by simp;omega
             rw[←Dt _ _ _ (by simp;omega),List.length_append,IG,n3,←J3]
             rw[List.take_append_of_le_length (by simp;omega)]
             exact List.take_of_length_le (by simp;omega)
            rw[this]
            exact PList.append h5t n1)
           refine⟨_,_,_,_,_,K _ _ (by rw[e1];exact hr),.inl rfl,U.1,U.2,by rw[ll];exact Nat.le_refl _, ?_⟩
           simp only[fy]
           refine⟨by simp[St.ups,lC],F,by rw[jA],Mj,by rw[jA];exact e3⟩
          ·refine N false _ len F ((J.toList.drop (β sp k ge).off).take (len*i.size)) (cs.take (len*i.size)) sp k (ge+1) wm e1 (by omega) I h5t yK IG ?_ (by rw[Gk];omega) (by rw[IG];exact J4)
           have Mi:=PList.length _ _ h5t
           rw[IG]at Mi
           have:=run_loadCells_list (P:=P) w.drew ⟨(β sp k ge).blk,(β sp k ge).off+0,none⟩ ((J.toList.drop (β sp k ge).off).take (len*i.size)) (fun j u H=>by
            rw[kY]
            rw[List.getElem?_take]at H
            split at H
            ·rw[List.getElem?_drop]at H
             unfold World.cell?
             show(match w.heap[(β sp k ge).blk]? with|some (.cells c _ _)=>if(none:Option Nat).isSome then none else c[(β sp k ge).off+0+j]? |_=>none)=some u
             rw[O];simpa using H
            ·cases H)
           rw[←Mi]at this
           simp only[Builtin.firstCells]
           exact this
         ·simp[Q.run]at r
     ·simp[Q.run]at r
    ·simp[Q.run]at r
   ·simp[Q.run]at r
end
end Go.Ev
namespace Go.Ev
open Go
theorem aaz{P:Program}{β:iL}{G:Sp→Nat→Nat}{w:World}{M:iB}{s t e:TypeId}{k:Nat}{ex:Bool}{v:Value}(hs:P.underlying s=some (.slice e))(J:P.underlying e=some (.int .u8))(K:P.underlying t=some .string)(H:fy β G w M (.sl [.i .u8 (k:Int)] 1 ex) v)(hk:k<256):
  ∃I,(convert s t v).run P w= .ok (.string I) w∧bytesN I= [k]:=by
 simp only[fy,PRel,PCells]at H
 obtain⟨r,off,N,sp,rfl,V,W,O,⟨u,U,X,rfl,Y⟩,_⟩:=H
 have D:sp=none:=O.resolve_right (by omega)
 subst D
 have:=run_loadCells_list (P:=P) w ⟨r,off,none⟩ [.int .u8 k] (fun j u F=>by
  cases j with
  |zero=>simp at F;subst F;rw[kY];exact U
  |succ j=>simp at F)
 simp only[List.length_cons,List.length_nil,Nat.zero_add]at this
 refine⟨ByteArray.empty.push (UInt8.ofNat k), ?_, ?_⟩
 ·simp[convert,run_underlying hs,run_underlying K,run_underlying J,Conv.bytesToString,this]
 ·have:(UInt8.ofNat k).toNat=k:=by simp[UInt8.toNat_ofNat'];omega
  show [(UInt8.ofNat k).toNat]= [k]
  rw[this]
section
variable{P:Program}{B:lZ}{st:St}{a:Act}{w:World}{β:iL}{M:iB}{o:Oper}{v:T}{ups:List Up}
theorem qM{x:Option T}{h:Sp→Nat→b8}{i:Nat}(r:(Ev.val x).run h i=some (.val v ups)):x=some v∧ups= []:=by
 cases x with
 |none=>simp[Ev.val,Q.run]at r
 |some y=>grind [Ev.val,Q.run]
theorem aaA(kU:pD β st.gens w M st.rho a.eval)(h:iS B st w β M){c:Call}(i:o.op= .call c){sh:Nat}{LS:mA}{d:Nat}(hc:sy P sh c=some LS)
  (r:(jk d st.rho LS).run st.get st.sh.length=some (.val v ups)):lr P B st a w β M o v ups:=by
 unfold sy at hc
 split at hc
 ·grind [Option.map_eq_some_iff,jk,Q.run]
 ·grind [jk,Q.run]
 ·grind [jk,Q.run,aaq,aar,aas,aat]
 ·rename_i D
  split at hc
  ·rename_i t u x y F H
   split at hc
   ·grind [ahw]
   ·cases hc
  ·cases hc
 ·grind [Option.map_eq_some_iff,afg]
 ·grind [Option.map_eq_some_iff,afg]
 ·cases hc
theorem ahx(kU:pD β st.gens w M st.rho a.eval)(h:iS B st w β M){s t e:TypeId}{x:Operand}{r:iF}(H:o.op= .convert s t x)(hx:lU x=some r)(hs:P.underlying s=some (.slice e))(I:P.underlying e=some (.int .u8))(J:P.underlying t=some .string){k:Nat}{ex:Bool}(K:st.rho r= .sl [.i .u8 (k:Int)] 1 ex)(hk:k<256):lr P B st a w β M o (.s [k]) []:=by
 have D:=kU x r hx
 rw[K]at D
 obtain⟨F,N,O⟩:=aaz hs I J D hk
 exact iM h (cv:= .string F) (by simp[execOp,H,N]) (by simp only[fy];exact⟨F,rfl,O⟩)
theorem arh(kU:pD β st.gens w M st.rho a.eval)(h:iS B st w β M){sh:Nat}{LS:mA}{d:Nat}(hc:jZ P sh o.op=some LS)
  (i:(jk d st.rho LS).run st.get st.sh.length=some (.val v ups)):lr P B st a w β M o v ups:=by
 cases Gl:o.op with
 |move x=>
  grind [jZ,Option.map_eq_some_iff,jk,Q.run,aff]
 |assign x=>
  rw[Gl]at hc;simp only[jZ,Option.map_eq_some_iff]at hc
  obtain⟨y,D,rfl⟩:=hc
  simp[jk,Q.run]at i;obtain⟨rfl,rfl⟩:=i
  simp_all[aff]
 |pick c x y=>
  grind [jZ,jk,Q.run,aak]
 |alloc t=>
  grind [jZ,UO]
 |box t x=>
  grind [jZ,Option.map_eq_some_iff,ahp]
 |build t V=>
  grind [jZ,Option.map_eq_some_iff,UL]
 |buildSlice t len V=>
  grind [jZ,ahs]
 |load t x=>
  grind [jZ,aqY]
 |store t x y=>
  grind [jZ,ara]
 |nilCheck x=>
  grind [jZ,Option.map_eq_some_iff,aha]
 |binOp op t x y t'=>
  rw[Gl]at hc;simp only[jZ]at hc
  split at hc
  ·rename_i x' y' D H
   split at hc
   ·rename_i hk
    simp at hc;subst hc
    obtain⟨e1,rfl⟩:=qM i
    simp only[Option.map_eq_some_iff]at e1
    obtain⟨r,I,rfl⟩:=e1
    exact Ou (neg:=false) kU h Gl D H (by have:=tj hk;simp[De,this]) (by simp) I
   ·rename_i hk
    simp at hc;subst hc
    obtain⟨e1,rfl⟩:=qM i
    simp only[Option.map_eq_some_iff]at e1
    obtain⟨r,I,rfl⟩:=e1
    exact Ou (neg:=true) kU h Gl D H (by have:=tj hk;simp[De,this]) (by simp) I
   ·simp at hc;subst hc
    obtain⟨e1,rfl⟩:=qM i
    grind [ahb]
   ·rename_i hk
    simp only[Option.map_eq_some_iff]at hc
    obtain⟨k,F,rfl⟩:=hc
    obtain⟨e1,rfl⟩:=qM i
    simp only[Option.map_eq_some_iff]at e1
    obtain⟨r,I,rfl⟩:=e1
    refine Ou (neg:=false) kU h Gl D H F ?_ I
    have O:=qJ F
    grind
   ·rename_i hk
    simp only[Option.map_eq_some_iff]at hc
    obtain⟨k,F,rfl⟩:=hc
    obtain⟨e1,rfl⟩:=qM i
    simp only[Option.map_eq_some_iff]at e1
    obtain⟨r,I,rfl⟩:=e1
    refine Ou (neg:=true) kU h Gl D H F ?_ I
    have O:=qJ F
    grind
   ·cases hc
  ·cases hc
 |unOp op t x=>
  rw[Gl]at hc;simp only[jZ,Option.map_eq_some_iff]at hc
  obtain⟨y,D,rfl⟩:=hc
  obtain⟨e1,rfl⟩:=qM i
  grind [aqX]
 |convert s t x=>
  rw[Gl]at hc;simp only[jZ]at hc
  split at hc
  ·grind [jk,Q.run,ahd]
  ·rename_i e y D H F
   split at hc
   ·rename_i N
    simp at hc;subst hc
    simp only[jk]at i
    split at i
    ·rename_i k ex K
     split at i
     ·rename_i hk
      simp[Q.run]at i;obtain⟨rfl,rfl⟩:=i
      exact ahx kU h Gl F D N H K hk
     ·simp[Q.run]at i
    ·simp[Q.run]at i
   ·cases hc
  ·cases hc
 |makeFunc W first X=>
  rw[Gl]at hc
  cases W <;> simp only[jZ]at hc <;> try (cases hc;done)
  grind [jk,Q.run,aan]
 |makeMap t r=>
  rw[Gl]at hc
  cases r <;> simp only[jZ]at hc
  ·grind [UP]
  ·cases hc
 |makeSlice t l c=>
  grind [jZ,aau]
 |slice t x l Y m=>
  rw[Gl]at hc;simp only[jZ]at hc
  split at hc
  ·rename_i y Z h' D H F N K
   simp at hc;subst hc
   have U:m=none:=by cases m <;> simp[uh]at K ⊢
   grind [ahj]
  ·rename_i e y Z h' m' D H F N K
   split at hc
   ·rename_i n hn
    split at hc
    ·rename_i J
     simp at J hc;subst hc
     refine ahk kU h Gl H F N K D hn J.1 ?_ i
     intro U
     rcases J.2 with e1|e1
     ·cases m with
      |none=>simp at U
      |some mm=>grind [uh,Option.map_eq_some_iff]
     ·cases Y with
      |none=>grind [uh]
      |some _=>rfl
    ·cases hc
   ·cases hc
  ·cases hc
 |fieldAddr s x f=>
  grind [jZ,aqZ]
 |field s x f=>
  grind [jZ,ahf]
 |indexAddr t x j=>
  grind [jZ,aq0,ahi]
 |index t x j=>
  grind [jZ,ahh,ahg]
 |lookup t m k ok=>
  grind [jZ,ard]
 |mapUpdate t m k x=>
  grind [jZ,Option.map_eq_some_iff,are]
 |extract x j=>
  rw[Gl]at hc;simp only[jZ,Option.map_eq_some_iff]at hc
  obtain⟨y,D,rfl⟩:=hc
  simp only[jk]at i
  split at i
  ·rename_i vs e
   obtain⟨e1,rfl⟩:=qM i
   grind [ahe]
  ·simp[Q.run]at i
 |call c=>grind [jZ,aaA]
 |_=>grind [jZ]
end
end Go.Ev
