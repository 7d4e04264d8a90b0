/- A tree evaluator over the model, proved against it (part C): where it answers, the call returns that answer. Conditions: none beyond its theorems' own. -/
import Derived.Test.YtcpceiclnbmgiaaGreatEvB
import Derived.Laws.Tables
set_option linter.unusedSimpArgs false
set_option linter.unusedVariables false
namespace Go.Ev
open Go
theorem yI{P:Program}{t:TypeId}{z:T}(h:sH P t=some z): ∃i r,P.info? t=some i∧i.zero=some r∧Dv r=some z:=by
 unfold sH at h
 cases hi:P.info? t with
 |none=>simp[hi]at h
 |some i=>
  simp only[hi,Option.bind_some]at h
  cases D:i.zero with
  |none=>simp[D]at h
  |some r=>grind
theorem Gn{P:Program}{t:TypeId}{z:T}(h:sH P t=some z)(w:World): ∃r,(zeroValue t).run P w= .ok r w∧ ∀w M,PRel w M z r:=by
 obtain⟨i,r,D,F,H⟩:=yI h
 exact⟨r,by simp[zeroValue,typeInfo,D,F],fun w M=>qP H⟩
theorem tF{β:iL}{G:Sp→Nat→Nat}{w:World}{M:iB}{t:T}{cv:Value}(h:fx β G w M t cv)(i:noTup t=true):gP β G w M (cellsOf t) cv.cells.toList∧(cellsOf t).all single=true:=by
 cases t
 case agg cs=>
  simp only[fx]at h
  obtain⟨a,rfl,r,D⟩:=h
  exact⟨r,D⟩
 case tup cs=>simp[noTup]at i
 case any=>simp[noTup]at i
 all_goals
  have F:=h
  simp only[fx,PRel]at h
  refine⟨?_,rfl⟩
  simp only[cellsOf,gP]
  refine⟨cv,[], ?_,F,rfl⟩
  first
   |(subst h;rfl)
   |(obtain⟨_,rfl,_⟩:=h;rfl)
   |(obtain⟨_,_,rfl,_⟩:=h;rfl)
   |(obtain⟨_,_,_,rfl,_⟩:=h;rfl)
   |(obtain⟨_,_,_,_,rfl,_⟩:=h;rfl)
   |(obtain⟨_,rfl⟩:=h;rfl)
theorem yJ{w:World}{M:iB}{t:T}{cv:Value}(h:PRel w M t cv)(i:noTup t=true):PList w M (cellsOf t) cv.cells.toList∧(cellsOf t).all single=true:=by
 cases t
 case agg cs=>
  simp only[PRel]at h
  obtain⟨a,rfl,r,D⟩:=h
  exact⟨r,D⟩
 case tup cs=>simp[noTup]at i
 case any=>simp[noTup]at i
 case isl=>simp only[PRel]at h
 case ptr=>simp only[PRel]at h
 case mp=>simp only[PRel]at h
 all_goals
  have F:=h
  simp only[PRel]at h
  refine⟨?_,rfl⟩
  simp only[cellsOf,PList]
  refine⟨cv,[], ?_,F,rfl⟩
  first
   |(subst h;rfl)
   |(obtain⟨_,rfl,_⟩:=h;rfl)
   |(obtain⟨_,_,rfl,_⟩:=h;rfl)
   |(obtain⟨_,_,_,rfl,_⟩:=h;rfl)
   |(obtain⟨_,_,_,_,rfl,_⟩:=h;rfl)
theorem kh{α:Type}: ∀(cs:List α) (off:Nat) (i:List α),(splice cs off i).length=cs.length
 |cs,0,[]=>by grind [splice]
 | [],0,v::i=>by simp[splice]
 |c::cs,0,v::i=>by simp[splice,kh cs 0 i]
 | [],off+1,i=>by simp[splice]
 |c::cs,off+1,i=>by simp[splice,kh cs off i]
theorem qS{α:Type}: ∀(cs:List α) (off:Nat),splice cs off []=cs
 |cs,0=>by grind [splice]
 | [],off+1=>by simp[splice]
 |c::cs,off+1=>by simp[splice,qS cs off]
theorem BB{α:Type}: ∀(cs:List α) (off:Nat) (v:α) (i:List α),splice (cs.set off v) (off+1) i=splice cs off (v::i)
 | [],off,v,i=>by grind [splice]
 |c::cs,0,v,i=>by simp[splice]
 |c::cs,off+1,v,i=>by simp[splice,BB cs off v i]
theorem lX{α:Type}: ∀(cs:List α) (off:Nat) (i:List α) (j:Nat),(splice cs off i)[j]? =if off≤j∧j<off+i.length∧j<cs.length then i[j-off]? else cs[j]?
 |cs,0,[],j=>by rw[qS];simp
 | [],0,v::i,j=>by simp[splice]
 |c::cs,0,v::i,0=>by simp[splice]
 |c::cs,0,v::i,j+1=>by simp[splice,lX cs 0 i j]
 | [],off+1,i,j=>by simp[splice]
 |c::cs,off+1,i,0=>by simp[splice]
 |c::cs,off+1,i,j+1=>by
  simp only[splice,List.getElem?_cons_succ,lX cs off i j,List.length_cons]
  grind
theorem gP.splice{β:iL}{G:Sp→Nat→Nat}{w:World}{M:iB}: ∀{cs:List T} {r:List Value} {off:Nat} {F:List T} {MF:List Value},gP β G w M cs r→gP β G w M F MF→gP β G w M (splice cs off F) (splice r off MF)
 |cs,r,0,[],MF,i,D=>by grind [gP,qS]
 | [],r,0,v::F,MF,i,D=>by grind [gP,Ev.splice]
 |c::cs,r,0,v::F,MF,i,D=>by
  simp only[gP]at i D
  obtain⟨a,as,rfl,I,H⟩:=i
  obtain⟨u,us,rfl,J,K⟩:=D
  simp only[Ev.splice,gP]
  exact⟨u,_,rfl,J,gP.splice H K⟩
 | [],r,off+1,F,MF,i,D=>by simp_all[gP,Ev.splice]
 |c::cs,r,off+1,F,MF,i,D=>by
  simp only[gP]at i
  obtain⟨a,as,rfl,I,H⟩:=i
  simp only[Ev.splice,gP]
  exact⟨a,_,rfl,I,gP.splice H D⟩
theorem PList.splice{w:World}{M:iB}: ∀{cs:List T} {r:List Value} {off:Nat} {F:List T} {MF:List Value},PList w M cs r→PList w M F MF→PList w M (splice cs off F) (splice r off MF)
 |cs,r,0,[],MF,i,D=>by grind [PList,qS]
 | [],r,0,v::F,MF,i,D=>by grind [PList,Ev.splice]
 |c::cs,r,0,v::F,MF,i,D=>by
  simp only[PList]at i D
  obtain⟨a,as,rfl,I,H⟩:=i
  obtain⟨u,us,rfl,J,K⟩:=D
  simp only[Ev.splice,PList]
  exact⟨u,_,rfl,J,PList.splice H K⟩
 | [],r,off+1,F,MF,i,D=>by simp_all[PList,Ev.splice]
 |c::cs,r,off+1,F,MF,i,D=>by
  simp only[PList]at i
  obtain⟨a,as,rfl,I,H⟩:=i
  simp only[Ev.splice,PList]
  exact⟨a,_,rfl,I,PList.splice H D⟩
theorem tG{p:T→Bool}{cs i:List T}{off:Nat}(r:cs.all p=true)(D:i.all p=true):(splice cs off i).all p=true:=by
 grind [List.all_eq_true,lX,List.getElem?_of_mem]
theorem AH(off:Nat): ∀(r:List Value) (s:Nat) (i:Array Value),((r.zipIdx s).foldl (fun(cs:Array Value) (p:Value×Nat)=>cs.setIfInBounds (off+p.2) p.1) i).toList=splice i.toList (off+s) r
 | [],s,i=>by simp[qS]
 |v::r,s,i=>by
  simp only[List.zipIdx_cons,List.foldl_cons]
  rw[AH off r (s+1),Array.toList_setIfInBounds,←Nat.add_assoc,BB]
theorem OS{β:iL}{G:Sp→Nat→Nat}{w:World}{M:iB}{place:Nat→Option (Nat×Nat)}: ∀(parts:List (Nat×Value)) (F:List (Nat×List T)) (H:List T) (D:Array Value) (rs:List T),
  gP β G w M H D.toList→H.all single=true→parts.length=F.length→(∀(j i:Nat) (cv:Value) (off:Nat) (ts:List T),parts[j]? =some (i,cv)→F[j]? =some (off,ts)→place i=some (off,ts.length)∧gP β G w M ts cv.cells.toList∧ts.all single=true)→
  qh H F=some rs→ ∃rc,Instr.fill place D parts=some rc∧gP β G w M rs rc.toList∧rs.all single=true
 | [],F,H,D,rs,J,hs,r,K,I=>by
   grind [qh,Instr.fill]
 |(i,cv)::parts,F,H,D,rs,J,hs,r,K,I=>by
  cases F with
  |nil=>simp at r
  |cons p F=>
   obtain⟨off,ts⟩:=p
   simp only[qh]at I
   split at I
   ·rename_i O
    obtain⟨W,N,U⟩:=K 0 i cv off ts rfl rfl
    have DE:=gP.length _ _ N
    have Cm:=gP.length _ _ J
    have X:cv.cells.size=ts.length:=by rw[DE];simp
    have V:D.size=H.length:=by rw[Cm];simp
    have hc: ¬((cv.cells.size≠ts.length||off+cv.cells.size>D.size)=true):=by
     grind
    have e:(cv.cells.zipIdx.foldl (fun(cs:Array Value) (p:Value×Nat)=>cs.setIfInBounds (off+p.2) p.1) D).toList=splice D.toList off cv.cells.toList:=by
     have:=AH off cv.cells.toList 0 D
     grind [Array.toList_zipIdx]
    obtain⟨rc,Y,Z,r3⟩:=OS parts F (splice H off ts) (cv.cells.zipIdx.foldl (fun(cs:Array Value) (p:Value×Nat)=>cs.setIfInBounds (off+p.2) p.1) D) rs
     (by rw[e];exact gP.splice J N) (tG hs U) (by simpa using r) (fun j i cv off ts a b=>K (j+1) i cv off ts (by simpa using a) (by simpa using b)) I
    grind [Instr.fill]
   ·cases I
section
variable{P:Program}{B:l8}{st:St}{a:Act}{w:World}{β:iL}{M:iB}{o:Oper}{v:T}{ups:List Up}
theorem yK{F:List (Nat×Nat)}: ∀{D:List (Nat×Operand)} {r:List (Nat×Nat×iF)},placesOf F D=some r→D.length=r.length∧ ∀(j i:Nat) (x:Operand) (off n:Nat) (y:iF),D[j]? =some (i,x)→r[j]? =some (off,n,y)→F[i]? =some (off,n)∧lW x=some y
 | [],r,h=>by grind [placesOf]
 |(I,x0)::D,r,h=>by
  simp only[placesOf]at h
  split at h
  ·rename_i p y J K N H
   simp at h;subst h
   obtain⟨a1,a2⟩:=yK H
   grind
  ·cases h
theorem wN{sz:Nat}: ∀{D:List (Nat×Operand)} {r:List (Nat×Nat×iF)},qE sz D=some r→D.length=r.length∧ ∀(j i:Nat) (x:Operand) (off n:Nat) (y:iF),D[j]? =some (i,x)→r[j]? =some (off,n,y)→(off=i*sz∧n=sz)∧lW x=some y
 | [],r,h=>by grind [qE]
 |(H,x0)::D,r,h=>by
  simp only[qE]at h
  split at h
  ·rename_i y I J F
   simp at h;subst h
   obtain⟨a1,a2⟩:=wN F
   grind
  ·cases h
variable(kV:pJ β st.gens w M st.rho a.eval)(h:iU B st w β M)
include kV h
theorem Vc{d nx:Nat}{t:TypeId}{D:Array (Nat×Operand)}{z:T}{r:List (Nat×Nat×iF)}(ho:o.op= .build t D)(hz:sH P t=some z)
  (N:(∃O H,P.underlying t=some (.struct O)∧O.toList.mapM (fun f=>(P.info? f.type).map fun i=>(f.offset,i.size))=some H∧placesOf H D.toList=some r)∨(∃n e sz,P.underlying t=some (.array n e)∧lR P e=some sz∧qE sz D.toList=some r))
  (Hr:noTup z=true) (I:(jk d st.rho (.build (cellsOf z) r)).run st.get nx=some (.val v ups)):lB P B st a w β M o v ups:=by
 obtain⟨i,U,z1,z2,z3⟩:=yI hz
 have V:fx β st.gens w M z U:=PRel.toV _ _ _ _ (qP z3)
 obtain⟨W,X⟩:=tF V Hr
 simp only[jk]at I
 split at I
 ·rename_i jP
  cases Y:qh (cellsOf z) (r.map fun p=>(p.1,cellsOf (st.rho p.2.2)))with
  |none=>simp[Y,Ev.val,Q.run]at I
  |some rs=>
   simp[Y,Ev.val,Q.run]at I;obtain⟨rfl,rfl⟩:=I
   have parts: ∃place:Nat→Option (Nat×Nat),(∀rc,Instr.fill place U.cells (D.toList.map fun p=>(p.1,a.eval p.2))=some rc→P.built t (D.map fun(i,x)=>(i,a.eval x)).toList=some rc)∧D.toList.length=r.length∧
     ∀(j i:Nat) (x:Operand) (off n:Nat) (y:iF),D.toList[j]? =some (i,x)→r[j]? =some (off,n,y)→place i=some (off,n)∧lW x=some y:=by
    rcases N with⟨O,H,u1,u2,u3⟩|⟨n,e,sz,u1,u2,u3⟩
    ·obtain⟨Z,g2⟩:=yK u3
     refine⟨fun i=>H[i]?,fun rc F=> ?_,Z,g2⟩
     simp only[Program.built,z1,z2,u1,u2,Array.toList_map]
     have:(fun x:Nat=>H.toArray[x]?)=fun i=>H[i]? :=by funext i;simp
     rw[this];exact F
    ·obtain⟨Z,g2⟩:=wN u3
     have: ∃ie,P.info? e=some ie∧ie.size=sz:=by
      simp_all[lR]
     obtain⟨ie,v1,v2⟩:=this
     refine⟨fun i=>some (i*ie.size,ie.size),fun rc F=> ?_,Z,fun j i x off n y J K=> ?_⟩
     ·simp only[Program.built,z1,z2,u1,v1,Array.toList_map];exact F
     ·obtain⟨⟨rfl,rfl⟩,c⟩:=g2 j i x off n y J K
      exact⟨by rw[v2],c⟩
   obtain⟨place,q1,q2,q3⟩:=parts
   obtain⟨rc,r1,r2,r3⟩:=OS (place:=place) (D.toList.map fun p=>(p.1,a.eval p.2)) _ (cellsOf z) U.cells rs W X (by simp[q2]) (by
    intro j i cv off ts J K
    rw[List.getElem?_map,Option.map_eq_some_iff]at J K
    obtain⟨⟨i',x⟩,c1,c2⟩:=J
    obtain⟨⟨ayv,n,y⟩,c3,c4⟩:=K
    simp at c2 c4
    obtain⟨rfl,rfl⟩:=c2
    obtain⟨rfl,rfl⟩:=c4
    obtain⟨e1,e2⟩:=q3 j i' x ayv n y c1 c3
    have hv:=kV x y e2
    have Vd:=(List.all_eq_true.1 jP) _ (List.mem_of_getElem? c3)
    simp at Vd
    obtain⟨k1,k2⟩:=tF hv Vd.2
    exact⟨by rw[e1,Vd.1],k1,k2⟩) Y
   refine iM h (cv:= .agg rc) ?_ (by simp only[fx];exact⟨rc,rfl,r2,r3⟩)
   have:=run_build (P:=P) w t (D.map fun(i,x)=>(i,a.eval x)) rc (q1 rc r1)
   simp[execOp,ho,this]
 ·simp[Q.run]at I
end
end Go.Ev
namespace Go.Ev
open Go
theorem oV{st:St}{d:Nat}{sh:Bool}{ob:Ob}{f:Sp→Nat→Nat→T}{v:T}{ups:List Up}(h:(oc d sh ob f).run st.get st.sh.length=some (.val v ups)):
  ∃sp k g,v=f sp k g∧ups= [(sp,k,⟨g,ob⟩)]∧st.gens sp k<g∧(sp= .S→sh=true):=by
 grind [oc,Q.run,St.get,Gl,l0]
theorem yL{α:Type}(z:List α): ∀n,(repl z n).length=n*z.length
 |0=>by simp[repl]
 |n+1=>by simp[repl,yL z n,Nat.add_mul];omega
theorem J8{α:Type}(z:List α)(i:z≠ []): ∀(n j:Nat),j<n*z.length→(repl z n)[j]? =z[j%z.length]?
 |0,j,h=>by simp at h
 |n+1,j,h=>by
  have D:0<z.length:=List.length_pos_iff.2 i
  simp only[repl]
  by_cases r:j<z.length
  ·rw[List.getElem?_append_left r,Nat.mod_eq_of_lt r]
  ·rw[List.getElem?_append_right (by omega),J8 z i n (j-z.length) (by rw[Nat.add_mul]at h;omega)]
   grind [Nat.mod_eq_sub_mod]
theorem DI(z:Array Value)(n:Nat)(r:z.size≠0):((Array.range (n*z.size)).map (fun i=>z[i%z.size]!)).toList=repl z.toList n:=by
 apply List.ext_getElem?
 grind [J8,List.getElem?_eq_none,yL,Nat.mod_lt]
theorem PList.repl{w:World}{M:iB}{z:List T}{i:List Value}(h:PList w M z i): ∀n,PList w M (Ev.repl z n) (Ev.repl i n)
 |0=>by simp[Ev.repl,PList]
 |n+1=>by simp only[Ev.repl];exact PList.append h (PList.repl h n)
theorem DJ{z:List T}(h:z.all single=true): ∀n,(repl z n).all single=true
 |0=>by simp[repl]
 |n+1=>by simp only[repl,List.all_append,Bool.and_eq_true];exact⟨h,DJ h n⟩
theorem FA{P:Program}{w:World}{t e:TypeId}{i:TypeInfo}{r:Value}{k:IntKind}{m:Int}(F:P.underlying t=some (.slice e))(hi:P.info? e=some i)(H:i.zero=some r)(K:0≤m)(Ve:IntKind.i64.wrap m=m)
  (N:(i.bytes:Int)*m≤281474976710656) (O:m.toNat*i.bytes≤140737488355328):
  (Instr.makeSlice t (.int k m) (.int k m)).run P w= .ok (.slice (some ⟨w.heap.size,0,none⟩) m.toNat m.toNat) (w.alloc (.cells ((Array.range (m.toNat*i.size)).map (fun j=>r.cells[j%r.cells.size]!)) e)):=by
 have I: ¬(m<0):=by omega
 have U: ¬(281474976710656<(i.bytes:Int)*m):=by omega
 have V: ¬(140737488355328<m.toNat*i.bytes):=by omega
 have J: ¬(m.toNat*i.bytes>roomBytes):=by unfold roomBytes;omega
 simp only[Instr.makeSlice,Sem.run_bind,run_underlying F,Result.andThen_ok,asInt,asIntOf,Sem.run_pure,typeInfo,run_program,hi,Ve]
 simp only[I,decide_false,Bool.false_or,Int.lt_irrefl,gt_iff_lt,Bool.or_false]
 rw[if_neg (by simp;omega)]
 simp only[Sem.run_bind,askRoom,if_neg J,Sem.run_pure,Result.andThen_ok,sizeOf,typeInfo,run_program,hi]
 by_cases D:m.toNat*i.size=0
 ·rw[if_pos D,D]
  have:Array.range 0= #[]:=rfl
  simp[newRow,this]
 ·rw[if_neg D]
  simp[newRow,zeroValue,typeInfo,hi,H]
section
variable{P:Program}{B:l8}{st:St}{a:Act}{w:World}{β:iL}{M:iB}{o:Oper}{v:T}{ups:List Up}
theorem AI(h:iU B st w β M)(el:TypeId)(c:Array Value)(cs:List T)(bx:Bool)(sp:Sp)(k g:Nat)(F:st.gens sp k<g)
  (H:pI sp bx β st.gens w M cs (c.toList.take cs.length)) (hs:cs.all single=true) (r:cs.length≤c.size):
  iU B (st.up (sp,k,⟨g,.cells cs 0 bx⟩)) (w.alloc (.cells c el)) (nv β sp k g ⟨w.heap.size,0,c.size⟩) (fun b x=>M b x∨b=w.heap.size)∧
  Tr st w β M (st.up (sp,k,⟨g,.cells cs 0 bx⟩)) (w.alloc (.cells c el)) (nv β sp k g ⟨w.heap.size,0,c.size⟩) (fun b x=>M b x∨b=w.heap.size):=by
 have I: ∀i k' D,D≤st.gens i k'→nv β sp k g ⟨w.heap.size,0,c.size⟩ i k' D=β i k' D:=by
  grind [yD]
 have J: ∀i k',st.gens i k'≤(st.up (sp,k,⟨g,.cells cs 0 bx⟩)).gens i k':=by
  intro i k'
  rw[lH]
  grind
 refine U6 h sp k g F (.cells c el) c.size (.cells cs 0 bx) ?_
 unfold kY
 simp only[jA]
 refine⟨c,el,(0,0),by rw[heap_alloc,if_pos rfl],by omega,r,rfl, ?_,fun j _ _=>Or.inr (by trivial),hs,Nat.zero_le _⟩
 simp only[List.drop_zero]
 exact pI.mono (tB w M _) I J H
theorem Hs{o':Obj}{sp:Sp}{k g:Nat}{ob:Ob}{ext:Nat}{cv:Value}{v:T}(hr:(execOp a.eval o).run P w= .ok (.value cv) (w.alloc o'))
  (i:iU B (st.up (sp,k,⟨g,ob⟩)) (w.alloc o') (nv β sp k g ⟨w.heap.size,0,ext⟩) (fun b x=>M b x∨b=w.heap.size)∧
    Tr st w β M (st.up (sp,k,⟨g,ob⟩)) (w.alloc o') (nv β sp k g ⟨w.heap.size,0,ext⟩) (fun b x=>M b x∨b=w.heap.size))
  (r:fx (nv β sp k g ⟨w.heap.size,0,ext⟩) (st.up (sp,k,⟨g,ob⟩)).gens (w.alloc o') (fun b x=>M b x∨b=w.heap.size) v cv):lB P B st a w β M o v [(sp,k,⟨g,ob⟩)]:=
 ⟨_,cv,_,_,_,hr,.inl rfl,i.1,i.2,by show _≤(w.heap.push o').size;simp,r⟩
theorem Tr.less{M':iB}(hs: ∀b x,M' b x→M b x):Tr st w β M st w β M':=⟨kE hs,fun _ _ _ _=>rfl,fun _ _=>Nat.le_refl _⟩
theorem lB.less{M':iB}(hs: ∀b x,M' b x→M b x)(h:lB P B st a w β M' o v ups):lB P B st a w β M o v ups:=by
 obtain⟨i,cv,w',r,M2,D,F,H,I,J,K⟩:=h
 exact⟨i,cv,w',r,M2,D,F,H,(Tr.less hs).trans I (Nat.le_refl _),J,K⟩
theorem yM{l:List Value}{n:Nat}(h:n=l.length):l.take n=l:=by subst h;simp
variable(kV:pJ β st.gens w M st.rho a.eval)(h:iU B st w β M)
include h
theorem Vf{d:Nat}{sh:Bool}{t:TypeId}{z:T}(F:o.op= .alloc t)(H:sH P t=some z)(Hr:noTup z=true)
  (r:(jk d st.rho (.alloc (cellsOf z) sh)).run st.get st.sh.length=some (.val v ups)):lB P B st a w β M o v ups:=by
 simp only[jk]at r
 obtain⟨sp,k,g,rfl,rfl,I,J⟩:=oV r
 obtain⟨K,N,O⟩:=Gn H w
 obtain⟨D,U⟩:=yJ (O w M) Hr
 have i:=PList.length _ _ D
 refine Hs (cv:= .pointer (some ⟨w.heap.size,0,none⟩)) ?_ (AI h t K.cells (cellsOf z) true sp k g I (by rw[yM i];exact pI.ofP D) U (by rw[i];simp)) ?_
 ·simp[execOp,F,Instr.alloc,N,newVar,newRow]
 ·simp[fx,jA,lH]
include kV
theorem ahS{d:Nat}{sh:Bool}{t:TypeId}{x:Operand}{F:iF}(V:o.op= .box t x)(hx:lW x=some F)
  (i:(jk d st.rho (.box F sh)).run st.get st.sh.length=some (.val v ups)):lB P B st a w β M o v ups:=by
 have W:=kV x F hx
 simp only[jk]at i
 split at i
 ·simp[Q.run]at i
 ·rename_i J9
  simp at J9
  have H: ∀(M':iB) (r:T),iU B st w β M'→noTup r=true→ ∀sp k g,st.gens sp k<g→(match sp with| .L=>fx β st.gens w M' r (a.eval x)| .S=>tC true β st.gens w M' r (a.eval x))→lB P B st a w β M' o (.ptr sp k g 0) [(sp,k,⟨g,.cells (cellsOf r) 0 true⟩)]:=by
   intro M' r X J9 sp k g I Y
   have J:fx β st.gens w M' r (a.eval x):=by
    grind [tC.toV]
   obtain⟨N,Z⟩:=tF J J9
   have D:=gP.length _ _ N
   refine Hs (cv:= .pointer (some ⟨w.heap.size,0,none⟩)) ?_ (AI X t (a.eval x).cells (cellsOf r) true sp k g I (by
    rw[yM D]
    cases sp
    ·exact N
    ·exact fun iO G' p q=>(tF (Y iO G' p q) J9).1) Z (by rw[D];simp)) ?_
   ·simp[execOp,V,Instr.box,newVar,newRow]
   ·simp[fx,jA,lH]
  split at i
  ·simp only[Q.run_bind]at i
   cases K:(fz true iG (st.rho F)).run st.get st.sh.length with
   |none=>simp[K]at i
   |some p=>
    obtain⟨r,us⟩:=p
    simp only[K,Option.bind_some]at i
    split at i
    ·rename_i O
     simp at O
     obtain⟨rfl,ZL⟩:=O
     obtain⟨sp,k,g,rfl,rfl,I,hgs⟩:=oV i
     obtain⟨M',q1,q2,q3,U,q5⟩:=Bw true st iG (st.rho F) B st w β M _ r [] _ (Fz.refl st) h W K
     exact lB.less q3 (H M' r q1 ZL sp k g I (by cases sp;exact U.toV;exact U))
    ·simp[Q.run]at i
  grind [oV]
omit kV in
theorem Vg{d:Nat}{sh:Bool}{t:TypeId}(r:o.op= .makeMap t none)(i:(jk d st.rho (.mkmap sh)).run st.get st.sh.length=some (.val v ups)):lB P B st a w β M o v ups:=by
 simp only[jk]at i
 obtain⟨sp,k,g,rfl,rfl,D,F⟩:=oV i
 refine Hs (ext:=0) (cv:= .map (some w.heap.size)) (o':= .map #[] 0) ?_ (U6 h sp k g D (.map #[] 0) 0 (.map [] [] false) ?_) ?_
 ·simp[execOp,r,Instr.makeMap]
 ·unfold kY
  simp only[jA]
  exact⟨#[],0,by rw[heap_alloc,if_pos rfl],MapKept.stamped_empty 0,by simp[PList],by simp[PList],fun _ _=>Or.inr (by trivial)⟩
 ·simp[fx,jA,lH]
theorem aaG{d:Nat}{sh:Bool}{t e:TypeId}{l c:Operand}{N:iF}{i:TypeInfo}{z:T}(ho:o.op= .makeSlice t l c)(ht:P.underlying t=some (.slice e))(hi:P.info? e=some i)(hz:sH P e=some z)(hl:lW l=some N)(O:Hl l c=true)
  (Hr:noTup z=true) (K:i.size=(cellsOf z).length) (h0:i.size≠0)
  (F:(jk d st.rho (.mksl (cellsOf z) i.bytes N sh)).run st.get st.sh.length=some (.val v ups)):lB P B st a w β M o v ups:=by
 have Z:=kV l N hl
 have ec:a.eval c=a.eval l:=by
  unfold Hl at O
  grind
 simp only[jk]at F
 split at F
 ·rename_i n en
  obtain⟨k0,m,em,hm,rfl⟩:=nV en
  rw[em]at Z
  have el:=Z.int
  split at F
  ·rename_i mC
   simp at mC
   obtain⟨U,OT⟩:=mC
   obtain⟨sp,k,g,rfl,rfl,hg,hgs⟩:=oV F
   obtain⟨i',r,V,z2,z3⟩:=yI hz
   rw[hi]at V;simp at V;subst V
   obtain⟨c1,c2⟩:=yJ (w:=w) (M:=M) (qP z3) Hr
   have H:=PList.length _ _ c1
   have W:r.cells.size=i.size:=by rw[K,H];simp
   have X:=DI r.cells m.toNat (by omega)
   have Y:roomy=1099511627776:=rfl
   rw[Y]at U OT
   have Ve:IntKind.i64.wrap m=m:=by
    simp[IntKind.wrap,IntKind.bits,IntKind.signed];omega
   have I:((Array.range (m.toNat*i.size)).map (fun j=>r.cells[j%r.cells.size]!)).size=m.toNat*i.size:=by simp
   refine Hs (cv:= .slice (some ⟨w.heap.size,0,none⟩) m.toNat m.toNat) ?_ (AI h e ((Array.range (m.toNat*i.size)).map (fun j=>r.cells[j%r.cells.size]!)) (repl (cellsOf z) m.toNat) (U4 (cellsOf z)) sp k g hg ?_ (DJ c2 _) ?_) ?_
   ·have J:(i.bytes:Int)*m=((m.toNat*i.bytes:Nat):Int):=by rw[Int.natCast_mul,Int.toNat_of_nonneg hm,Int.mul_comm]
    have:=FA (P:=P) (w:=w) (k:=k0) ht hi z2 hm Ve (by rw[J];omega) (by omega)
    simp[execOp,ho,ec,el,this]
   ·have D:PList w M (repl (cellsOf z) m.toNat) (((Array.range (m.toNat*i.size)).map (fun j=>r.cells[j%r.cells.size]!)).toList.take (repl (cellsOf z) m.toNat).length):=by
     rw[yL,←K,←W,X]
     have:=PList.repl c1 m.toNat
     rw[yM]
     ·exact this
     ·rw[yL];simp
    cases hb:U4 (cellsOf z)with
    |false=>exact D
    |true=>
     cases sp with
     |L=>exact PList.toV β st.gens _ _ D
     |S=>exact fun iO G' _ _=>PList.toV iO G' _ _ D
   ·rw[I,yL,K];exact Nat.le_refl _
   ·simp only[fx,jA,lH]
    refine⟨by simp,m.toNat,rfl,Nat.le_refl _, ?_⟩
    rw[I,K];simp
  ·simp[Q.run]at F
 ·simp[Q.run]at F
end
end Go.Ev
namespace Go.Ev
open Go
theorem qt(st:St): ∀(us:List Up) (sp:Sp) (k:Nat),oS us sp k=false→(st.ups us).get sp k=st.get sp k:=by
 intro us
 induction us generalizing st with
 |nil=>intro sp k _;rfl
 |cons u us ih=>
  grind [oS,Bool.or_eq_false_iff,St.ups,mb]
theorem afF(st:St)(u:Up):(st.up u).fr=st.fr:=by obtain⟨sp,k,e⟩:=u;cases sp <;> rfl
theorem Ht(st:St): ∀(us:List Up),(st.ups us).fr=st.fr:=by
 intro us
 induction us generalizing st with
 |nil=>rfl
 |cons u us ih=>grind [St.ups,afF]
theorem BC: ∀{D:List (Nat×Operand)} {r:List (Nat×iF)},vP D=some r→D.length=r.length∧ ∀(j i:Nat) (x:Operand) (F:Nat) (y:iF),D[j]? =some (i,x)→r[j]? =some (F,y)→F=i∧lW x=some y
 | [],r,h=>by grind [vP]
 |(I,x0)::D,r,h=>by
  simp only[vP]at h
  split at h
  ·rename_i y J K H
   simp at h;subst h
   obtain⟨a1,a2⟩:=BC H
   grind
  ·cases h
theorem Ka{w:World}{M:iB}{place:Nat→Option (Nat×Nat)}: ∀(parts:List (Nat×Value)) (F:List (Nat×List T)) (H:List T) (D:Array Value) (rs:List T),
  PList w M H D.toList→H.all single=true→parts.length=F.length→(∀(j i:Nat) (cv:Value) (off:Nat) (ts:List T),parts[j]? =some (i,cv)→F[j]? =some (off,ts)→place i=some (off,ts.length)∧PList w M ts cv.cells.toList∧ts.all single=true)→
  qh H F=some rs→ ∃rc,Instr.fill place D parts=some rc∧PList w M rs rc.toList∧rs.all single=true∧rs.length=H.length
 | [],F,H,D,rs,J,hs,r,K,I=>by
   grind [qh,Instr.fill]
 |(i,cv)::parts,F,H,D,rs,J,hs,r,K,I=>by
  cases F with
  |nil=>simp at r
  |cons p F=>
   obtain⟨off,ts⟩:=p
   simp only[qh]at I
   split at I
   ·rename_i O
    obtain⟨W,N,U⟩:=K 0 i cv off ts rfl rfl
    have DE:=PList.length _ _ N
    have Cm:=PList.length _ _ J
    have X:cv.cells.size=ts.length:=by rw[DE];simp
    have V:D.size=H.length:=by rw[Cm];simp
    have hc: ¬((cv.cells.size≠ts.length||off+cv.cells.size>D.size)=true):=by
     grind
    have e:(cv.cells.zipIdx.foldl (fun(cs:Array Value) (p:Value×Nat)=>cs.setIfInBounds (off+p.2) p.1) D).toList=splice D.toList off cv.cells.toList:=by
     have:=AH off cv.cells.toList 0 D
     grind [Array.toList_zipIdx]
    obtain⟨rc,Y,Z,r3,r4⟩:=Ka parts F (splice H off ts) (cv.cells.zipIdx.foldl (fun(cs:Array Value) (p:Value×Nat)=>cs.setIfInBounds (off+p.2) p.1) D) rs
     (by rw[e];exact PList.splice J N) (tG hs U) (by simpa using r) (fun j i cv off ts a b=>K (j+1) i cv off ts (by simpa using a) (by simpa using b)) I
    grind [kh,Instr.fill]
   ·cases I
theorem DK{P:Program}{w:World}{t e:TypeId}{len n:Nat}{i:TypeInfo}{F:Value}{parts:Array (Nat×Value)}{rc:Array Value}(H:P.underlying t=some (.slice e))(hi:P.info? e=some i)(K:i.size=n)(N:i.zero=some F)(O:len*n≤16777216)
  (Gp:Instr.fill (fun j=>some (j*n,n)) ((Array.range (len*n)).map (fun j=>F.cells[j%F.cells.size]!)) parts.toList=some rc):
  (Instr.buildSlice t len parts).run P w= .ok (.slice (some ⟨w.heap.size,0,none⟩) len len) (w.alloc (.cells rc e)):=by
 have Kb: ¬(len*n>2 ^ 24):=by omega
 have D:(sizeOf e).run P w= .ok n w:=by simp[sizeOf,typeInfo,hi,K]
 have r:(zeroValue e).run P w= .ok F w:=by simp[zeroValue,typeInfo,hi,N]
 unfold Instr.buildSlice
 by_cases I:len*n=0
 ·have J: ∀f:Nat→Value,(Array.range (len*n)).map f= #[]:=by
   grind
  rw[J]at Gp
  simp only[Sem.run_bind,run_underlying H,Result.andThen_ok,D,if_neg Kb,if_pos I,Sem.run_pure,J,Gp]
  simp[newRow]
 ·simp only[Sem.run_bind,run_underlying H,Result.andThen_ok,D,if_neg Kb,if_neg I,Sem.run_pure,r,Gp]
  simp[newRow]
section
variable{P:Program}{B:l8}{st:St}{a:Act}{w:World}{β:iL}{M:iB}{o:Oper}{v:T}{ups:List Up}
variable(kV:pJ β st.gens w M st.rho a.eval)(h:iU B st w β M)
theorem Tr.fz{i:St}{M':iB}(r:Fz st i)(hs: ∀b x,M' b x→M b x):Tr st w β M i w β M':=
 ⟨kE hs,fun _ _ _ _=>rfl,fun sp k=>by rw[r.gens];exact Nat.le_refl _⟩
include kV h
theorem ahV{d N:Nat}{t e:TypeId}{len:Nat}{H:Array (Nat×Operand)}{r:List (Nat×iF)}{z:T}{n:Nat}(ho:o.op= .buildSlice t len H)(ht:P.underlying t=some (.slice e))(hz:sH P e=some z)(O:lR P e=some n)(hr:vP H.toList=some r)
  (Hr:noTup z=true) (U:n=(cellsOf z).length) (h0:n≠0) (B4:len*n≤16777216)
  (D:(jk d st.rho (.bsl (cellsOf z) len r)).run st.get N=some (.val v ups)):lB P B st a w β M o v ups:=by
 simp only[jk,Q.run_bind]at D
 cases V:(ja (Ev.fz false iG) (r.map fun p=>st.rho p.2)).run st.get N with
 |none=>simp[V]at D
 |some p=>
  obtain⟨ts,us⟩:=p
  simp only[V,Option.bind_some]at D
  split at D
  ·rename_i jP
   split at D
   ·rename_i cs hf
    simp[Q.run]at D;obtain⟨rfl,rfl⟩:=D
    obtain⟨g1,g2⟩:=BC hr
    have uT:gP β st.gens w M (r.map fun p=>st.rho p.2) (H.toList.map fun p=>a.eval p.2):=by
     have gen: ∀(I:List (Nat×Operand)) (rs:List (Nat×iF)),I.length=rs.length→(∀(j i:Nat) (x:Operand) (K:Nat) (y:iF),I[j]? =some (i,x)→rs[j]? =some (K,y)→K=i∧lW x=some y)→gP β st.gens w M (rs.map fun p=>st.rho p.2) (I.map fun p=>a.eval p.2):=by
      intro I
      induction I with
      |nil=>grind [gP]
      |cons q I ih=>
       intro rs hl hg
       cases rs with
       |nil=>simp at hl
       |cons rr rs=>
        simp only[List.map_cons,gP]
        exact⟨_,_,rfl,kV _ _ (hg 0 q.1 q.2 rr.1 rr.2 rfl rfl).2,ih rs (by simpa using hl) (fun j i x K y a b=>hg (j+1) i x K y (by simpa using a) (by simpa using b))⟩
     grind
    obtain⟨M',q1,q2,q3,q4,q5,q6⟩:=pn (fun t=>Bw false st iG t) _ B st w β M _ ts us N (Fz.refl st) h uT V
    have W:PList w M' ts (H.toList.map fun p=>a.eval p.2):=q4
    obtain⟨i,X,z1,z2,z3⟩:=yI hz
    obtain⟨c1,c2⟩:=yJ (w:=w) (M:=M') (qP z3) Hr
    have Y:=PList.length _ _ c1
    have Z:i.size=n:=by unfold lR at O;rw[z1]at O;simpa using O
    have J:X.cells.size=n:=by rw[U,Y];simp
    have ahT:=DI X.cells len (by omega)
    rw[J]at ahT
    have aru:PList w M' (repl (cellsOf z) len) ((Array.range (len*n)).map (fun j=>X.cells[j%n]!)).toList:=by
     grind [PList.repl]
    obtain⟨rc,r1,r2,r3,r4⟩:=Ka (place:=fun i=>some (i*n,n)) (H.toList.map fun p=>(p.1,a.eval p.2)) _ (repl (cellsOf z) len) _ cs aru (DJ c2 len) (by simp[g1,q6]) (by
     intro j i cv off tt b1 b2
     rw[List.getElem?_map,Option.map_eq_some_iff]at b1
     obtain⟨⟨i1,x⟩,c3,c4⟩:=b1
     simp at c4;obtain⟨rfl,rfl⟩:=c4
     rw[List.getElem?_zip_eq_some]at b2
     obtain⟨b3,b4⟩:=b2
     rw[List.getElem?_map,Option.map_eq_some_iff]at b3 b4
     obtain⟨⟨i2,y⟩,d1,d2⟩:=b3
     obtain⟨tv,d3,d4⟩:=b4
     obtain⟨e1,e2⟩:=g2 j i1 x i2 y c3 d1
     subst e1
     simp at d2
     obtain⟨cv',f1,f2⟩:=W.get d3
     rw[List.getElem?_map,c3]at f1
     simp at f1;subst f1
     have F:=(List.all_eq_true.1 jP) _ (List.mem_of_getElem? d3)
     simp at F
     obtain⟨k1,k2⟩:=yJ f2 F.2
     subst d4
     exact⟨by rw[F.1,←U,←d2,U],k1,k2⟩) hf
    obtain⟨p1,p2⟩:=ahz q1 (.cells rc e)
    refine⟨_,.slice (some ⟨w.heap.size,0,none⟩) len len,w.alloc (.cells rc e),β,M', ?_,.inl rfl,p1,(Tr.fz q2 q3).trans p2 (Nat.le_refl _),by show _≤(w.heap.push _).size;simp, ?_⟩
    ·have:=DK (P:=P) (w:=w) (t:=t) (e:=e) (len:=len) (n:=n) (parts:=H.map fun(i,x)=>(i,a.eval x)) (rc:=rc) ht z1 Z z2 B4 (by rw[J];simpa using r1)
     simp[execOp,ho,this]
    ·simp only[fx,PRel]
     refine⟨w.heap.size,0,len,none,rfl,Nat.le_refl _,fun _=>rfl,.inl rfl, ?_⟩
     have IV:=PList.length _ _ r2
     refine PCells.of (c:=rc) (el:=e) (fz:=(0,0)) (by rw[heap_alloc,if_pos rfl]) _ _ ?_ ?_ r3
     ·rw[List.drop_zero,yM IV];exact PList.mono p2.keep _ _ r2
     ·intro x _ _ hmx
      exact Nat.lt_irrefl _ (q1.mlt _ _ hmx)
   ·simp[Q.run]at D
  ·simp[Q.run]at D
end
end Go.Ev
namespace Go.Ev
open Go
theorem qb{w:World}{g:Nat}{ZM cs:Array Value}{t:TypeId}{fr:Nat×Nat}(i:w.heap[g]? =some (.cells ZM t fr)):w.setRow g cs=setBlock w g (.cells cs t fr):=by
 unfold World.setRow setBlock
 congr 1
 grind
theorem fx.one{β:iL}{G:Sp→Nat→Nat}{w:World}{M:iB}{t:T}{cv:Value}(h:fx β G w M t cv)(hs:single t=true):cv.oneCell'=true:=by
 cases t <;> simp[single]at hs <;> simp only[fx,PRel]at h
 all_goals first
  |(subst h;rfl)
  |(obtain⟨_,rfl,_⟩:=h;rfl)
  |(obtain⟨_,_,rfl,_⟩:=h;rfl)
  |(obtain⟨_,_,_,rfl,_⟩:=h;rfl)
  |(obtain⟨_,_,_,_,rfl,_⟩:=h;rfl)
  |(obtain⟨_,rfl⟩:=h;rfl)
theorem gP.one{β:iL}{G:Sp→Nat→Nat}{w:World}{M:iB}: ∀{ts:List T} {i:List Value},gP β G w M ts i→ts.all single=true→ ∀v∈i,v.oneCell'=true
 | [],i,h,_=>by grind [gP]
 |t::ts,i,h,hs=>by
  simp only[gP]at h
  obtain⟨u,us,rfl,r,D⟩:=h
  simp only[List.all_cons,Bool.and_eq_true]at hs
  intro v hv
  simp at hv
  rcases hv with rfl|hv
  ·exact r.one hs.1
  ·exact gP.one D hs.2 v hv
theorem aaH(l i:List Value)(k:Nat)(hk:k+i.length≤l.length)(j:Nat):(l.take k++i++l.drop (k+i.length))[j]? =(splice l k i)[j]? :=by
 rw[lX]
 grind
theorem DL(l i:List Value)(k:Nat)(hk:k+i.length≤l.length):l.take k++i++l.drop (k+i.length)=splice l k i:=by
 apply List.ext_getElem?;intro j;exact aaH l i k hk j
section
variable{P:Program}{B:l8}{st:St}{a:Act}{w:World}{β:iL}{M:iB}{o:Oper}{v:T}{ups:List Up}
theorem yN(h:iU B st w β M){sp:Sp}{k g wm:Nat}{cs:List T}{bx:Bool}(V:st.get sp k=⟨g,.cells cs wm bx⟩)(i:Nat)(W:g≤i){c:Array Value}{el:TypeId}
  (X:w.heap[(β sp k g).blk]? =some (.cells c el (0,0))) (off:Nat) (r:List Value) (Tj:List T) (Kc:wm≤off) (Kd:off+r.length≤(β sp k g).ext) (hle:wm≤Tj.length) (Y:Tj.length≤(β sp k g).ext) (hs:Tj.all single=true)
  (hl:pI sp bx β st.gens w M Tj ((splice (c.toList.drop (β sp k g).off) off r).take Tj.length)):
  iU B (st.up (sp,k,⟨i,.cells Tj wm bx⟩)) (setBlock w (β sp k g).blk (.cells (splice c.toList ((β sp k g).off+off) r).toArray el)) (nv β sp k i (β sp k g)) M∧
  Tr st w β M (st.up (sp,k,⟨i,.cells Tj wm bx⟩)) (setBlock w (β sp k g).blk (.cells (splice c.toList ((β sp k g).off+off) r).toArray el)) (nv β sp k i (β sp k g)) M:=by
 have Z:st.gens sp k=g:=by show(st.get sp k).g=g;rw[V]
 have J:live (st.get sp k):=by rw[V];trivial
 have ho:=h.obj sp k
 rw[V]at ho
 unfold kY at ho
 obtain⟨c0,el0,fz0,U,h2,h3,h4,h5,h6,h7,h8⟩:=ho
 dsimp only at U h2 h3 h4 h6
 rw[X]at U
 simp at U
 obtain⟨rfl,rfl,rfl⟩:=U
 have K:=rG X
 have hk:kQ w M (setBlock w (β sp k g).blk (.cells (splice c.toList ((β sp k g).off+off) r).toArray el)) M:=by
  refine⟨fun b x u H I=> ?_,fun b es cl H I=> ?_,fun _ _ _ h=>h⟩
  ·by_cases N:b=(β sp k g).blk
   ·subst N
    unfold World.cell? at H ⊢
    rw[X]at H
    rw[kH,if_pos ⟨rfl,K⟩]
    simp at H ⊢
    rw[lX,if_neg]
    ·simpa using H
    ·rintro⟨q1,q2,q3⟩
     apply I
     have:=h6 (x-(β sp k g).off) (by omega) (by omega)
     rwa [show(β sp k g).off+(x-(β sp k g).off)=x by omega]at this
   ·rw[oh (w:=w) (by rw[kH,if_neg (fun e=>N e.1)])];exact H
  grind [kH]
 have Vh: ∀D k' F,F≤st.gens D k'→nv β sp k i (β sp k g) D k' F=β D k' F:=by
  grind [jA,yD]
 have hG: ∀D k',st.gens D k'≤(st.up (sp,k,⟨i,.cells Tj wm bx⟩)).gens D k':=by
  intro D k';rw[lH];split
  ·grind
  ·grind
 have O:=OI (M':=M) h sp k i (.cells Tj wm bx) J (by rw[Z];exact W) (.cells (splice c.toList ((β sp k g).off+off) r).toArray el) (fun _ _ I=>I) (fun _ _ _ I=>I) (by rw[Z];exact hk) (h.base J)
 rw[Z]at O
 refine O ?_
 unfold kY
 simp only[jA]
 refine⟨_,el,(0,0),by rw[kH,if_pos ⟨rfl,K⟩],by simp[kh];omega,Y,rfl, ?_,h6,hs,by omega⟩
 have arx:(splice c.toList ((β sp k g).off+off) r).drop (β sp k g).off=splice (c.toList.drop (β sp k g).off) off r:=by
  apply List.ext_getElem?
  grind [lX,List.length_drop]
 simp only[List.toList_toArray]at arx ⊢
 grind [pI.mono]
variable(kV:pJ β st.gens w M st.rho a.eval)(h:iU B st w β M)
include h
omit h in
theorem Gq{M':iB}{us:List Up}{t:TypeId}{n:Nat}{x y:Operand}{sp:Sp}{k g off wm:Nat}{cs:List T}{bx:Bool}{ts:List T}(ho:o.op= .store t x y)(hn:lR P t=some n)(U:iU B (st.ups us) w β M')(K:Tr st w β M (st.ups us) w β M')
  (hx:a.eval x= .pointer (some ⟨(β sp k g).blk,(β sp k g).off+off,none⟩)) (V:(st.ups us).get sp k=⟨g,.cells cs wm bx⟩) (Kc:wm≤off) (hle:off+n≤cs.length) (W:ts.length=n) (hs:ts.all single=true)
  (D:pI sp bx β (st.ups us).gens w M' ts (a.eval y).cells.toList):
  lB P B st a w β M o iW (us++ [(sp,k,⟨g,.cells (splice cs off ts) wm bx⟩)]):=by
 have B2:=U.obj sp k
 rw[V]at B2
 unfold kY at B2
 obtain⟨c,el,fz,F,h2,X,Y,H,h6,h7,h8⟩:=B2
 dsimp only at F h2 X Y H h6
 subst Y
 have r:gP β (st.ups us).gens w M' ts (a.eval y).cells.toList:=D.toV
 have N:=gP.length _ _ r
 have Vi:=gP.one r hs
 have I:=run_storeCells_at P (β sp k g).blk ((β sp k g).off+off) el (a.eval y).cells.toList 0 c w F (by simp at N ⊢; omega) Vi
 rw[qb F]at I
 simp only[Nat.add_zero]at I
 rw[DL _ _ _ (by simp at N ⊢; omega)]at I
 have i:=yN U V g (Nat.le_refl _) F off (a.eval y).cells.toList (splice cs off ts) Kc (by omega) (by rw[kh];omega) (by rw[kh];exact X) (tG h7 hs) (by
  rw[kh]
  have Vj:(splice (c.toList.drop (β sp k g).off) off (a.eval y).cells.toList).take cs.length=splice ((c.toList.drop (β sp k g).off).take cs.length) off (a.eval y).cells.toList:=by
   apply List.ext_getElem?
   intro j
   rw[List.getElem?_take,lX,lX,List.getElem?_take,List.length_take]
   by_cases J:j<cs.length
   ·rw[if_pos J,if_pos J]
    by_cases hc:off≤j∧j<off+(a.eval y).cells.toList.length∧j<(c.toList.drop (β sp k g).off).length
    ·rw[if_pos hc,if_pos (by omega)]
    ·rw[if_neg hc,if_neg (by omega)]
   ·rw[if_neg J,if_neg J,if_neg (by omega)]
  rw[Vj]
  cases bx
  ·exact PList.splice H D
  ·cases sp
   ·exact gP.splice H D
   ·exact fun Z G' p q=>gP.splice (H Z G' p q) (D Z G' p q))
 rw[sL]at i
 refine⟨.skip,undef,setBlock w (β sp k g).blk (.cells (splice c.toList ((β sp k g).off+off) (a.eval y).cells.toList).toArray el),β,M', ?_,.inr ⟨rfl,rfl⟩, ?_, ?_,by rw[lv];exact Nat.le_refl _, ?_⟩
 ·have O:(a.eval y).cells.size=n:=by simp at N;omega
  simp[execOp,ho,hx,Instr.storeAt,Instr.sureAddr,storeVar,m8 hn,O,I]
 ·rw[kS];exact i.1
 ·rw[kS];exact K.trans i.2 (Nat.le_refl _)
 ·simp[fx,iW,undef,gP]
include kV
theorem ary{d:Nat}{t:TypeId}{n:Nat}{x y:Operand}{J D:iF}(U:o.op= .store t x y)(hx:lW x=some J)(hy:lW y=some D)(V:lR P t=some n)
  (i:(jk d st.rho (.st J D n)).run st.get st.sh.length=some (.val v ups)):lB P B st a w β M o v ups:=by
 have I:=kV x J hx
 have W:=kV y D hy
 simp only[jk,sd]at i
 split at i
 ·simp[Q.run]at i
 ·rename_i hc
  simp at hc
  obtain⟨F,J9⟩:=hc
  split at i
  ·rename_i sp k g off ex
   rw[ex]at I
   simp only[fx]at I
   simp only[Q.run]at i
   split at i
   ·rename_i X
    generalize Y:st.get sp k=e at*
    obtain⟨ge,ob⟩:=e
    dsimp only at X;subst X
    cases ob with
    |none=>simp[Q.run]at i
    |map _ _ _=>simp[Q.run]at i
    |cells cs wm bx=>
     dsimp only at i
     split at i
     ·rename_i Kc
      simp at Kc
      split at i
      ·rename_i MG
       simp at MG
       obtain⟨rfl,rfl⟩:=MG
       simp[Q.run]at i;obtain⟨rfl,rfl⟩:=i
       obtain⟨k1,k2⟩:=tF W J9
       exact Gq (us:= []) U V h (Tr.refl _ _ _ _) I.2 Y Kc.1 Kc.2 F k2 k1
      ·rename_i MG
       simp only[Q.run_bind]at i
       cases K:(fz (bx&&sp== .S) iG (st.rho D)).run st.get st.sh.length with
       |none=>simp[K]at i
       |some p=>
        obtain⟨t',us⟩:=p
        simp only[K,Option.bind_some]at i
        split at i
        ·simp[Q.run]at i
        ·rename_i Z
         simp at Z
         obtain⟨⟨N,r⟩,O⟩:=Z
         simp[Q.run]at i;obtain⟨rfl,rfl⟩:=i
         obtain⟨M',q1,q2,q3,H,q5⟩:=Bw _ st iG (st.rho D) B st w β M _ t' us _ (Fz.refl st) h W K
         have OU:(st.ups us).get sp k=⟨ge,.cells cs wm bx⟩:=by rw[qt st us sp k N];exact Y
         refine Gq (us:=us) U V q1 (Tr.fz q2 q3) I.2 OU Kc.1 Kc.2 O ?_ ?_
         ·exact(tF H.toV r).2
         ·cases bx with
          |false=>
           simp only[Bool.false_and]at H
           exact(yJ H r).1
          |true=>
           cases sp with
           |L=>simp at MG
           |S=>
            simp only[Bool.true_and,beq_self_eq_true]at H
            rw[q2.gens]
            exact fun iO G' p q=>(tF (H iO G' p q) r).1
     ·simp[Q.run]at i
   ·simp[Q.run]at i
  ·simp[Q.run]at i
end
end Go.Ev
namespace Go.Ev
open Go
section
variable{P:Program}{B:l8}{st:St}{a:Act}{w:World}{β:iL}{M:iB}{o:Oper}{v:T}{ups:List Up}
variable(kV:pJ β st.gens w M st.rho a.eval)(h:iU B st w β M)
theorem MH{t O et:TypeId}{ek:EK}{m:Option Nat}{es:Array MapEntry}{F:Nat}{ks vs:List T}{k z r:T}{kv U:Value}{K:Bool}(ht:P.underlying t=some (.map O et))(hk:keyOf P O=some ek)
  (hm:(m=none∧es= #[])∨ ∃H,m=some H∧w.heap[H]? =some (.map es F)) (N:PList w M ks (es.toList.map (·.key))) (V:PList w M vs (es.toList.map (·.val))) (J:fx β st.gens w M k kv) (hz:(zeroValue et).run P w= .ok U w) (hzr:PRel w M z U)
  (I:nI ek ks vs k z K=some r): ∃cv,(Instr.lookup t (.map m) kv K).run P w= .ok cv w∧fx β st.gens w M r cv:=by
 unfold nI at I
 split at I
 ·cases I
 ·rename_i OR
  simp at OR
  have Bz:(Instr.checkKey es.isEmpty 10000 O kv).run P w= .ok () w:=BA (P:=P) hk J OR 9998 es.isEmpty
  have W: ∀D,(Instr.findKey O kv es.toList).run P w= .ok D w→(Instr.lookup t (.map m) kv K).run P w=
    .ok (match D with|some (_,cv)=>if K then .tuple #[cv,.bool true]else cv|none=>if K then .tuple #[U,.bool false]else U) w:=by
   intro D FB
   unfold Instr.lookup
   rcases hm with⟨rfl,rfl⟩|⟨H,rfl,hb⟩
   ·simp only[Sem.run_bind,run_underlying ht,Result.andThen_ok,Sem.run_pure,Bz,FB]
    cases D with
    |none=>simp[hz]
    |some p=>simp
   ·have B5:(getObj H).run P w= .ok (.map es F) w:=by simp[getObj,Sem.run,hb]
    simp only[Sem.run_bind,run_underlying ht,Result.andThen_ok,Sem.run_pure,B5,Bz,FB]
    cases D with
    |none=>simp[hz]
    |some p=>simp
  split at I
  ·rename_i i X
   obtain⟨D,r1,Y⟩:=tE (P:=P) hk J es.toList ks _ N X
   obtain⟨e,e1,e2⟩:=Y
   simp only[Option.map_eq_some_iff]at I
   obtain⟨v',Z,rfl⟩:=I
   obtain⟨cv,c1,c2⟩:=V.get Z
   grind [fx,gP,PRel.toV]
  ·rename_i X
   simp at I;subst I
   obtain⟨D,r1,Y⟩:=tE (P:=P) hk J es.toList ks _ N X
   refine⟨_,W D r1, ?_⟩
   have:D=none:=Y
   grind [fx,gP,PRel.toV]
  ·cases I
include kV h
theorem arC{d nx:Nat}{t kt et:TypeId}{m k:Operand}{X k':iF}{N:Bool}{ek:EK}{z:T}(ho:o.op= .lookup t m k N)(hm:lW m=some X)(hk:lW k=some k')(ht:P.underlying t=some (.map kt et))(Y:keyOf P kt=some ek)(hz:sH P et=some z)
  (D:(jk d st.rho (.lk ek X k' z N)).run st.get nx=some (.val v ups)):lB P B st a w β M o v ups:=by
 have F:=kV m X hm
 have vk:=kV k k' hk
 obtain⟨zv,z1,z2⟩:=Gn hz w
 have J: ∀(W:Option Nat) (es:Array MapEntry) (i:Nat) (ks H:List T) (r:T),a.eval m= .map W→((W=none∧es= #[])∨ ∃I,W=some I∧w.heap[I]? =some (.map es i))→PList w M ks (es.toList.map (·.key))→PList w M H (es.toList.map (·.val))→
   nI ek ks H (st.rho k') z N=some r→lB P B st a w β M o r []:=by
  intro W es i ks H r Z O U V e5
  obtain⟨cv,r1,r2⟩:=MH (P:=P) (β:=β) (st:=st) ht Y O U V vk z1 (z2 w M) e5
  exact iM h (cv:=cv) (by simp[execOp,ho,Z,r1]) r2
 simp only[jk]at D
 split at D
 ·rename_i e
  rw[e]at F;simp only[fx]at F
  split at D
  ·rename_i OR
   simp[Q.run]at D;obtain⟨rfl,rfl⟩:=D
   exact J none #[] 0 [] [] _ F (.inl ⟨rfl,rfl⟩) (by simp[PList]) (by simp[PList]) (by simp[nI,OR,ni])
  ·simp[Q.run]at D
 ·rename_i ks H e
  rw[e]at F;simp only[fx,PRel]at F
  obtain⟨I,es,i,Z,O,_,_,U,V⟩:=F
  cases K:nI ek ks H (st.rho k') z N with
  |none=>simp[K,Ev.val,Q.run]at D
  |some r=>
   simp[K,Ev.val,Q.run]at D;obtain⟨rfl,rfl⟩:=D
   exact J _ es i ks H _ Z (.inr ⟨I,rfl,O⟩) U V K
 ·rename_i sp kk g e
  rw[e]at F;simp only[fx]at F
  simp only[Q.run]at D
  split at D
  ·rename_i hg
   have B2:=h.obj sp kk
   generalize he:st.get sp kk=en at*
   obtain⟨ge,ob⟩:=en
   dsimp only at hg;subst hg
   cases ob with
   |none=>simp[Q.run]at D
   |cells _ _ _=>simp[Q.run]at D
   |map ks H f=>
    dsimp only at D
    unfold kY at B2
    obtain⟨es,i,O,_,U,V,_⟩:=B2
    cases K:nI ek ks H (st.rho k') z N with
    |none=>simp[K,Ev.val,Q.run]at D
    |some r=>
     simp[K,Ev.val,Q.run]at D;obtain⟨rfl,rfl⟩:=D
     exact J _ es i ks H _ F.2 (.inr ⟨_,rfl,O⟩) U V K
  ·simp[Q.run]at D
 ·simp[Q.run]at D
omit kV h
theorem PList.set{ts:List T}{r:List Value}(i:Nat){t:T}{cv:Value}(h:PList w M ts r)(D:PRel w M t cv):PList w M (ts.set i t) (r.set i cv):=by
 induction ts generalizing r i with
 |nil=>grind [PList]
 |cons x xs ih=>
  simp only[PList]at h
  obtain⟨u,us,rfl,F,H⟩:=h
  cases i with
  |zero=>grind [PList]
  |succ i=>grind [PList]
theorem wO{c:CK}{x y:T}{r D:Value}(hx:fx β st.gens w M x r)(i:fx β st.gens w M y D)(h:lO c x y=some true)(n:Nat):Instr.sameBits n D r=true:=by
 unfold lO at h
 split at h
 ·simp at h;subst h;rw[hx.bool,i.bool];simp[Instr.sameBits]
 ·split at h
  ·rename_i e;subst e;simp at h;subst h;rw[hx.int,i.int];simp[Instr.sameBits]
  ·cases h
 ·simp at h;subst h
  obtain⟨F,H,I⟩:=hx.str
  obtain⟨J,K,N⟩:=i.str
  rw[H,K]
  have:(J==F)=true:=by
   rw[beq_toListBytes,←mQ,←kI,←kI,I,N];simp
  grind [Instr.sameBits]
 ·cases h
theorem uU: ∀{ks:List CK} {xs i:List T} {r D:List Value},gP β st.gens w M xs r→gP β st.gens w M i D→jK ks xs i=some true→ ∀n,r.length=D.length∧((D.zip r).all fun p=>Instr.sameBits n p.1 p.2)=true
 | [],xs,i,r,D,hx,F,h,n=>by
   cases xs <;> cases i <;> simp[jK]at h
   simp_all[gP]
 |k::ks,xs,i,r,D,hx,F,h,n=>by
  cases xs with
  |nil=>grind [jK]
  |cons x xs=>
   cases i with
   |nil=>simp[jK]at h
   |cons y i=>
    simp only[gP]at hx F
    obtain⟨u,us,rfl,H,I⟩:=hx
    obtain⟨N,J,rfl,DM,OV⟩:=F
    simp only[jK]at h
    cases hc:lO k x y with
    |none=>simp[hc]at h
    |some b=>
     cases b with
     |false=>simp[hc]at h
     |true=>
      simp only[hc]at h
      obtain⟨O,K⟩:=uU I OV h n
      simp only[List.length_cons,List.zip_cons_cons,List.all_cons,Bool.and_eq_true]
      exact⟨by omega,wO H DM hc n,K⟩
theorem Hu{ek:EK}{x y:T}{r D:Value}(F:(∃c,ek= .one c)∨ ∃ks,ek= .flat ks)(hx:fx β st.gens w M x r)(i:fx β st.gens w M y D)(h:uP ek x y=some true)(n:Nat):Instr.sameBits (n+1) D r=true:=by
 rcases F with⟨c,rfl⟩|⟨ks,rfl⟩
 ·exact wO hx i h _
 ·unfold uP at h
  split at h <;> simp_all
  rename_i xs J
  simp only[fx]at hx i
  obtain⟨K,rfl,H,_⟩:=hx
  obtain⟨N,rfl,I,_⟩:=i
  obtain⟨O,U⟩:=uU H I h n
  simp_all[Instr.sameBits,Bool.and_eq_true]
theorem Ke{ek:EK}{k:T}: ∀{ks:List T} {i:Nat},ni ek k ks=some (some i)→ ∃x,ks[i]? =some x∧uP ek k x=some true
 | [],i,h=>by simp[ni]at h
 |x::xs,i,h=>by
  simp only[ni]at h
  split at h
  ·grind
  ·simp only[Option.map_eq_some_iff]at h
   obtain⟨r,F,D⟩:=h
   cases r with
   |none=>simp at D
   |some j=>
    simp at D;subst D
    simp_all[Ke]
  ·cases h
theorem BD{c:CK}{x y:T}{F H:Value}(hx:fx β st.gens w M x F)(i:fx β st.gens w M y H)(h:lO c x y=some true):F=H:=by
 unfold lO at h
 split at h
 ·simp at h;subst h;rw[hx.bool,i.bool]
 ·split at h
  ·rename_i e;subst e;simp at h;subst h;rw[hx.int,i.int]
  ·cases h
 ·simp at h;subst h
  obtain⟨r,I,J⟩:=hx.str
  obtain⟨D,K,N⟩:=i.str
  rw[I,K]
  have O:bytesN r=bytesN D:=J.trans N.symm
  have U:r.data.toList=D.data.toList:=(List.map_inj_right (f:=UInt8.toNat) (fun _ _ h=>UInt8.toNat_inj.1 h)).1 O
  have V:r=D:=ByteArray.ext (Array.toList_inj.1 U)
  rw[V]
 ·cases h
theorem yO: ∀{ks:List CK} {xs i:List T} {r D:List Value},gP β st.gens w M xs r→gP β st.gens w M i D→jK ks xs i=some true→r=D
 | [],xs,i,r,D,hx,F,h=>by
   grind [jK,gP]
 |k::ks,xs,i,r,D,hx,F,h=>by
  cases xs with
  |nil=>grind [jK]
  |cons x xs=>
   cases i with
   |nil=>simp[jK]at h
   |cons y i=>
    simp only[gP]at hx F
    obtain⟨u,us,rfl,H,I⟩:=hx
    obtain⟨K,J,rfl,DM,OV⟩:=F
    simp only[jK]at h
    cases hc:lO k x y with
    |none=>simp[hc]at h
    |some b=>
     cases b with
     |false=>simp[hc]at h
     |true=>
      simp only[hc]at h
      rw[BD H DM hc,yO I OV h]
theorem Vk{ek:EK}{x y:T}{r D:Value}(F:(∃c,ek= .one c)∨ ∃ks,ek= .flat ks)(hx:fx β st.gens w M x r)(i:fx β st.gens w M y D)(h:uP ek x y=some true):r=D:=by
 rcases F with⟨c,rfl⟩|⟨ks,rfl⟩
 ·exact BD hx i h
 ·unfold uP at h
  split at h <;> simp_all
  rename_i xs J
  simp only[fx]at hx i
  obtain⟨K,rfl,H,_⟩:=hx
  obtain⟨N,rfl,I,_⟩:=i
  have:=yO H I h
  simp_all
theorem yQ{c:CK}{x y:T}{v:Value}(hx:fx β st.gens w M x v)(i:fx β st.gens w M y v)(h:lO c x y=some false):False:=by
 unfold lO at h
 split at h
 ·have e:=hx.bool;rw[i.bool]at e;cases e;simp at h
 ·split at h
  ·rename_i e;subst e
   have e:=hx.int;rw[i.int]at e;cases e;simp at h
  ·cases h
 ·obtain⟨r,D,F⟩:=hx.str
  obtain⟨H,I,J⟩:=i.str
  grind
 ·cases h
theorem wP: ∀{ks:List CK} {xs i:List T} {v:List Value},gP β st.gens w M xs v→gP β st.gens w M i v→jK ks xs i=some false→False
 | [],xs,i,v,hx,r,h=>by
   grind [jK]
 |k::ks,xs,i,v,hx,r,h=>by
  cases xs with
  |nil=>grind [jK]
  |cons x xs=>
   cases i with
   |nil=>simp[jK]at h
   |cons y i=>
    simp only[gP]at hx r
    obtain⟨u,us,rfl,D,F⟩:=hx
    obtain⟨I,H,e,DM,OV⟩:=r
    cases e
    simp only[jK]at h
    cases hc:lO k x y with
    |none=>simp[hc]at h
    |some b=>
     cases b with
     |false=>exact yQ D DM hc
     |true=>
      simp only[hc]at h
      exact wP F OV h
theorem Rf{ek:EK}{x y:T}{v:Value}(r:(∃c,ek= .one c)∨ ∃ks,ek= .flat ks)(hx:fx β st.gens w M x v)(i:fx β st.gens w M y v)(h:uP ek x y=some false):False:=by
 rcases r with⟨c,rfl⟩|⟨ks,rfl⟩
 ·exact yQ hx i h
 ·unfold uP at h
  split at h <;> simp_all
  rename_i xs H
  simp only[fx]at hx i
  obtain⟨I,rfl,D,_⟩:=hx
  obtain⟨J,e,F,_⟩:=i
  cases e
  exact wP D F h
theorem DN{ek:EK}{k:T}: ∀{ks:List T},ni ek k ks=some none→ ∀x∈ks,uP ek k x=some false
 | [],h,x,hx=>by simp at hx
 |y::H,h,x,hx=>by
  simp only[ni]at h
  split at h
  ·simp at h
  ·rename_i i
   simp only[Option.map_eq_some_iff]at h
   obtain⟨r,D,F⟩:=h
   cases r with
   |some j=>simp at F
   |none=>
    rcases List.mem_cons.1 hx with rfl|hx
    ·exact i
    ·exact DN D x hx
  ·cases h
theorem PList.getV{w:World}{M:iB}: ∀{ts:List T} {i:List Value},PList w M ts i→ ∀{j:Nat} {v:Value},i[j]? =some v→ ∃t,ts[j]? =some t∧PRel w M t v
 | [],i,h,j,v,r=>by grind [PList]
 |x::xs,i,h,j,v,r=>by
  simp only[PList]at h
  obtain⟨u,us,rfl,I,D⟩:=h
  cases j with
  |zero=>grind
  |succ j=>obtain⟨t,F,H⟩:=PList.getV D (j:=j) (v:=v) (by simpa using r);exact⟨t,by simpa using F,H⟩
theorem afG(h:iU B st w β M){sp:Sp}{k g:Nat}{ks vs:List T}(N:st.get sp k=⟨g,.map ks vs false⟩)(Kf:Array MapEntry)(D:Nat)(O:MapKept.Stamped Kf D)(i K:List T)(hk:PList w M i (Kf.toList.map (·.key)))(hv:PList w M K (Kf.toList.map (·.val))):
  iU B (st.up (sp,k,⟨g,.map i K false⟩)) (setBlock w (β sp k g).blk (.map Kf D)) β M∧Tr st w β M (st.up (sp,k,⟨g,.map i K false⟩)) (setBlock w (β sp k g).blk (.map Kf D)) β M:=by
 have U:st.gens sp k=g:=by show(st.get sp k).g=g;rw[N]
 have F:live (st.get sp k):=by rw[N];trivial
 have V:=h.obj sp k
 rw[N]at V
 unfold kY at V
 obtain⟨es,W,Y,_,h2,h3,Z⟩:=V
 dsimp only at Y Z
 have X:=rG Y
 have r:kQ w M (setBlock w (β sp k g).blk (.map Kf D)) M:=by
  refine⟨fun b x u hu H=> ?_,fun b es cl hu H=> ?_,fun _ _ _ h=>h⟩
  ·by_cases I:b=(β sp k g).blk
   ·grind
   ·rw[oh (w:=w) (by rw[kH,if_neg (fun e=>I e.1)])];exact hu
  ·by_cases I:b=(β sp k g).blk
   ·simp_all
   ·grind [kH]
 have J:=OI (M':=M) h sp k g (.map i K false) F (Nat.le_of_eq U) (.map Kf D) (fun _ _ H=>H) (fun _ _ _ H=>H) (by rw[U];exact r) (h.base F)
 rw[U,sL]at J
 refine J ?_
 exact⟨Kf,D,by rw[kH,if_pos ⟨rfl,X⟩],O,PList.mono r _ _ hk,PList.mono r _ _ hv,Z⟩
include kV h
theorem arD{d:Nat}{t kt et:TypeId}{m k x:Operand}{m' k' Y:iF}{ek:EK}(ho:o.op= .mapUpdate t m k x)(hm:lW m=some m')(hk:lW k=some k')(hx:lW x=some Y)(ht:P.underlying t=some (.map kt et))(H:keyOf P kt=some ek)
  (r:(jk d st.rho (.mu ek m' k' Y)).run st.get st.sh.length=some (.val v ups)):lB P B st a w β M o v ups:=by
 have vm:=kV m m' hm
 have vk:=kV k k' hk
 have vx:=kV x Y hx
 simp only[jk]at r
 split at r
 ·rename_i sp kk g e
  rw[e]at vm;simp only[fx]at vm
  simp only[Q.run]at r
  split at r
  ·rename_i Z
   simp at Z
   obtain⟨Z,OR⟩:=Z
   generalize he:st.get sp kk=en at*
   obtain⟨ge,ob⟩:=en
   dsimp only at Z;subst Z
   split at r
   ·rename_i ks J heq
    dsimp only at heq;subst heq
    simp only[Q.run_bind]at r
    cases hz:(fz false iG (st.rho Y)).run st.get st.sh.length with
    |none=>simp[hz]at r
    |some p=>
     obtain⟨t',us⟩:=p
     simp only[hz,Option.bind_some]at r
     split at r
     ·rename_i q N
      split at r
      ·simp[Q.run]at r
      ·rename_i hh
       simp at hh
       simp[Q.run]at r;obtain⟨rfl,rfl⟩:=r
       obtain⟨M',q1,q2,q3,q4,q5⟩:=Bw _ st iG (st.rho Y) B st w β M _ t' us _ (Fz.refl st) h vx hz
       have q4':PRel w M' t' (a.eval x):=q4
       have OU:(st.ups us).get sp kk=⟨ge,.map ks J false⟩:=by rw[qt st us sp kk hh];exact he
       have B2:=q1.obj sp kk
       rw[OU]at B2
       unfold kY at B2
       obtain⟨es,clock,e2,nM,X,e4,_⟩:=B2
       dsimp only at e2
       have ZN:fx β st.gens w M' (st.rho k') (a.eval k):=fx.mono (kE q3) (fun _ _ _ _=>rfl) (fun _ _=>Nat.le_refl _) _ _ vk
       have Bz:(Instr.checkKey false 10000 kt (a.eval k)).run P w= .ok () w:=BA (P:=P) H ZN OR 9998 false
       obtain⟨_,rI⟩:=Hq H
       have kp:PRel w M' (st.rho k') (a.eval k):=by
        generalize st.rho k'=tk at*
        cases tk <;> rcases rI with⟨c,rfl⟩|⟨cs,rfl⟩ <;> (try (cases c)) <;> simp[isKey,Hk]at OR
        all_goals first
         |(simp only[fx]at ZN;simp only[PRel];exact ZN;done)
         |skip
        rename_i xs
        simp only[fx]at ZN
        obtain⟨arr,e5,l5,s5⟩:=ZN
        simp only[PRel]
        refine⟨arr,e5, ?_,s5⟩
        have: ∀(cs:List CK) (xs:List T) (J:List Value),qq cs xs=true→gP β st.gens w M' xs J→PList w M' xs J:=by
         intro cs
         induction cs with
         |nil=>intro xs J hc hv;cases xs <;> simp[qq]at hc;simpa only[gP,PList]using hv
         |cons c cs ih=>
          intro xs J hc hv
          cases xs with
          |nil=>simp[qq]at hc
          |cons x xs=>
           simp only[qq,Bool.and_eq_true]at hc
           simp only[gP]at hv;simp only[PList]
           obtain⟨u,us,rfl,w1,w2⟩:=hv
           refine⟨u,us,rfl, ?_,ih xs us hc.2 w2⟩
           cases c <;> cases x <;> simp[Hk]at hc <;> simp only[fx]at w1 <;> simp only[PRel] <;> exact w1
        exact this _ _ _ OR l5
       have run: ∀(D:Option (Nat×Value)) (Kf:Array MapEntry) (qT:Nat),(Instr.findKey kt (a.eval k) es.toList).run P w= .ok D w→
         (match D with
           |some (i,_)=>do
            let key ←Instr.keyThatStays (((es[i]?).map (fun e:MapEntry=>e.key)).getD (a.eval k)) (a.eval k)
            setObj (β sp kk ge).blk (.map (es.modify i fun e=>{e with key,val:=a.eval x}) clock)
           |none=>setObj (β sp kk ge).blk (.map (es.push {key:=a.eval k,val:=a.eval x,born:=clock}) (clock+1))).run P w= .ok () (setBlock w (β sp kk ge).blk (.map Kf qT))→
         (execOp a.eval o).run P w= .ok .skip (setBlock w (β sp kk ge).blk (.map Kf qT)):=by
        intro D Kf qT FB Kg
        have:(Instr.mapUpdate t (.map (some (β sp kk ge).blk)) (a.eval k) (a.eval x)).run P w= .ok () (setBlock w (β sp kk ge).blk (.map Kf qT)):=by
         unfold Instr.mapUpdate
         simp only[Sem.run_bind,run_underlying ht,Result.andThen_ok]
         have B5:(getObj (β sp kk ge).blk).run P w= .ok (.map es clock) w:=by simp[getObj,Sem.run,e2]
         simp only[B5,Result.andThen_ok,Sem.run_bind,Bz,FB]
         cases D with
         |none=>exact Kg
         |some p=>exact Kg
        simp[execOp,ho,vm.2,this]
       have Kg: ∀(Kf:Array MapEntry) (c':Nat),(setObj (β sp kk ge).blk (.map Kf c')).run P w= .ok () (setBlock w (β sp kk ge).blk (.map Kf c')):=by
        intro Kf c';simp[setObj,Sem.run,e2,setBlock]
       unfold qN at N
       split at N
       ·rename_i i hf
        simp at N;subst N
        obtain⟨D,r1,e,K,r3⟩:=tE (P:=P) H ZN es.toList ks _ X hf
        obtain⟨kx,O,F⟩:=Ke hf
        obtain⟨kcv,I,kc2⟩:=X.get O
        rw[List.getElem?_map,K]at I
        simp at I
        have Vl:=Hu (β:=β) (st:=st) rI ZN (PRel.toV β st.gens _ _ kc2) F 9999
        have hei:es[i]? =some e:=by simpa using K
        simp only[Nat.zero_add]at r3
        have hkt:(Instr.keyThatStays (((es[i]?).map (fun e:MapEntry=>e.key)).getD (a.eval k)) (a.eval k)).run P w= .ok (a.eval k) w:=by
         rw[hei];simp only[Option.map_some,Option.getD_some,I]
         unfold Instr.keyThatStays
         rw[if_pos Vl];rfl
        obtain⟨U,V⟩:=afG q1 OU (es.modify i fun e=>{e with key:=a.eval k,val:=a.eval x}) clock (MapKept.stamped_modify nM i _ (fun _ _=>rfl) (fun e' _ ZL=>by
         have hh:e'=e:=by rw[hei]at ZL;exact(Option.some.inj ZL).symm
         subst hh
         exact(Vk rI ZN (PRel.toV β st.gens _ _ kc2) F).trans I.symm)) (ks.set i (st.rho k')) (J.set i t') (by
         have:=PList.set i X kp
         have e5:(es.modify i fun e=>{e with key:=a.eval k,val:=a.eval x}).toList.map (·.key)=(es.toList.map (·.key)).set i (a.eval k):=by
          apply List.ext_getElem?;intro j
          rw[Array.toList_modify,List.getElem?_map,List.getElem?_modify,List.getElem?_set,List.getElem?_map]
          by_cases W:i=j
          ·subst W;rw[K];simp;exact(List.getElem?_eq_some_iff.1 K).1
          ·simp[W]
         rw[e5];exact this) (by
         have:=PList.set i e4 q4'
         have e5:(es.modify i fun e=>{e with key:=a.eval k,val:=a.eval x}).toList.map (·.val)=(es.toList.map (·.val)).set i (a.eval x):=by
          apply List.ext_getElem?;intro j
          rw[Array.toList_modify,List.getElem?_map,List.getElem?_modify,List.getElem?_set,List.getElem?_map]
          by_cases W:i=j
          ·subst W;rw[K];simp;exact(List.getElem?_eq_some_iff.1 K).1
          ·simp[W]
         rw[e5];exact this)
        refine⟨.skip,undef,_,β,M',run D _ clock r1 ?_,.inr ⟨rfl,rfl⟩,by rw[kS];exact U,by rw[kS];exact(Tr.fz q2 q3).trans V (Nat.le_refl _),by rw[lv];exact Nat.le_refl _,by simp[fx,iW,undef,gP]⟩
        subst r3
        simp only[Sem.run_bind,hkt,Result.andThen_ok]
        exact Kg _ _
       ·rename_i hf
        simp at N;subst N
        obtain⟨D,r1,K⟩:=tE (P:=P) H ZN es.toList ks _ X hf
        have:D=none:=K
        subst this
        obtain⟨U,V⟩:=afG q1 OU (es.push {key:=a.eval k,val:=a.eval x,born:=clock}) (clock+1) (MapKept.stamped_push nM (fun y hy ZL=>by
         obtain⟨j,W⟩:=List.getElem?_of_mem hy
         obtain⟨kx,O,F⟩:=X.getV (j:=j) (v:=y.key) (by rw[List.getElem?_map,W];rfl)
         rw[ZL]at F
         exact Rf rI ZN (PRel.toV β st.gens _ _ F) (DN hf _ (List.mem_of_getElem? O)))) (ks++ [st.rho k']) (J++ [t']) (by
         simp only[Array.toList_push,List.map_append,List.map_cons,List.map_nil]
         exact PList.append X (by simp only[PList];exact⟨_,_,rfl,kp,rfl⟩)) (by
         simp only[Array.toList_push,List.map_append,List.map_cons,List.map_nil]
         exact PList.append e4 (by simp only[PList];exact⟨_,_,rfl,q4',rfl⟩))
        exact⟨.skip,undef,_,β,M',run none _ (clock+1) r1 (Kg _ _),.inr ⟨rfl,rfl⟩,by rw[kS];exact U,by rw[kS];exact(Tr.fz q2 q3).trans V (Nat.le_refl _),by rw[lv];exact Nat.le_refl _,by simp[fx,iW,undef,gP]⟩
       ·cases N
     ·simp[Q.run]at r
   ·simp[Q.run]at r
  ·simp[Q.run]at r
 ·simp[Q.run]at r
end
end Go.Ev
namespace Go.Ev
open Go
theorem Gr(AJ:Nat): ∀(r c:Nat),c≤AJ+(AJ+768)/4→Builtin.growBy AJ r c≤AJ+(AJ+768)/4
 |0,c,h=>by simpa[Builtin.growBy]using h
 |r+1,c,h=>by
  simp only[Builtin.growBy]
  split
  ·exact h
  ·exact Gr AJ r _ (by omega)
theorem aaK(Hv ZM:Nat)(h:ZM<Hv):Builtin.nextslicecap Hv ZM≤2*Hv+192:=by
 grind [Builtin.nextslicecap,Gr]
theorem Rg{Hv ZM bytes:Nat}(h:ZM<Hv)(i:Hv*bytes≤1099511627776)(r:bytes≠0):Builtin.nextslicecap Hv ZM*bytes≤281474976710656:=by
 have D:=Nat.mul_le_mul_right bytes (aaK Hv ZM h)
 have F:bytes≤Hv*bytes:=Nat.le_mul_of_pos_left bytes (by omega)
 grind
section
variable{P:Program}{B:l8}{st:St}{a:Act}{w:World}{β:iL}{M:iB}{o:Oper}{v:T}{ups:List Up}
theorem FC(h:iU B st w β M){sz nx n:Nat}{x:T}{cx:Value}{xs:List T}(I:fx β st.gens w M x cx)(i:(jL sz x).run st.get nx=some (n,xs)):
  ∃news:List Value,(∀w':World,w'.heap=w.heap→(Builtin.lenOf cx).run P w'= .ok n w'∧(Builtin.firstCells sz n cx).run P w'= .ok news.toArray w')∧PList w M xs news∧xs.all single=true∧xs.length=n*sz:=by
 unfold jL at i
 split at i
 ·simp[Q.run]at i;obtain⟨rfl,rfl⟩:=i
  simp_all[fx,Builtin.lenOf,Builtin.firstCells,PList]
 ·rename_i cs len ex
  split at i
  ·rename_i K
   simp[Q.run]at i;obtain⟨rfl,rfl⟩:=i
   simp only[fx,PRel]at I
   obtain⟨N,off,O,sp,rfl,U,Z,h5,V⟩:=I
   obtain⟨W,J,e2,e3,e4⟩:=PCells.load (P:=P) V
   refine⟨W,fun w' hw=>⟨by simp[Builtin.lenOf], ?_⟩,e3,e4,K⟩
   have:=run_loadCells_list (P:=P) w' ⟨N,off,sp⟩ W (fun j u D=>by
    rcases h5 with h5|h5
    ·grind [World.cell?,kZ]
    ·exfalso
     have hz:len=0:=by omega
     have h0:W= []:=List.length_eq_zero_iff.1 (by rw[J,K,hz,Nat.zero_mul])
     subst h0;simp at D)
   rw[J,K]at this
   simp[Builtin.firstCells,this]
  ·simp[Q.run]at i
 ·rename_i sp k g off len F
  split at i
  ·rename_i X
   subst X
   simp only[Q.run]at i
   split at i
   ·rename_i hg
    have B2:=h.obj sp k
    generalize he:st.get sp k=en at*
    obtain⟨ge,ob⟩:=en
    dsimp only at hg;subst hg
    cases ob with
    |none=>simp[Q.run]at i
    |map _ _ _=>simp[Q.run]at i
    |cells cs wm bx=>
     cases bx with
     |true=>simp[Q.run]at i
     |false=>
      dsimp only at i
      split at i
      ·rename_i hle
       simp[Q.run]at i;obtain⟨rfl,rfl⟩:=i
       unfold kY at B2
       obtain⟨c,el,fz,U,Z,V,h4,h5,h6,h7,h8⟩:=B2
       dsimp only at U Z V h5
       simp only[fx]at I
       obtain⟨q1,O,rfl,q2,q3⟩:=I
       have U9:=PList.take (len*F) (PList.drop off h5)
       rw[List.drop_take,List.drop_drop,List.take_take]at U9
       have Y:min (len*F) (cs.length-off)=len*F:=by omega
       rw[Y]at U9
       have r:((cs.drop off).take (len*F)).length=len*F:=by simp;omega
       refine⟨(c.toList.drop ((β sp k ge).off+off)).take (len*F),fun w' hw=>⟨by simp[Builtin.lenOf], ?_⟩,U9,nw h7 _ _,r⟩
       have MI:=PList.length _ _ U9
       rw[r]at MI
       have:=run_loadCells_list (P:=P) w' ⟨(β sp k ge).blk,(β sp k ge).off+off,none⟩ ((c.toList.drop ((β sp k ge).off+off)).take (len*F)) (fun j u D=>by
        rw[kZ]
        rw[List.getElem?_take]at D
        split at D
        ·rw[List.getElem?_drop]at D
         unfold World.cell?;rw[hw,U];simpa using D
        ·cases D)
       rw[←MI]at this
       simp[Builtin.firstCells,this]
      ·simp[Q.run]at i
   ·simp[Q.run]at i
  ·simp[Q.run]at i
 ·rename_i l
  split at i
  ·rename_i X
   subst X
   simp[Q.run]at i;obtain⟨rfl,rfl⟩:=i
   obtain⟨H,rfl,rfl⟩:=I.str
   refine⟨H.data.toList.map fun b=> .int .u8 b.toNat,fun w' _=>⟨by simp[Builtin.lenOf,mF], ?_⟩, ?_, ?_,by simp⟩
   ·have J:(H.extract 0 H.size).data=H.data:=by
     apply Array.ext'
     rw[ByteArray.data_extract,Array.toList_extract,List.extract_eq_take_drop]
     rw[List.drop_zero]
     exact List.take_of_length_le (by show H.data.toList.length≤H.data.size-0;simp)
    simp only[Builtin.firstCells,mF,J,Sem.run_pure]
    congr 1
    apply Array.ext';simp
   ·unfold bytesN
    rw[List.map_map]
    generalize H.data.toList=l
    induction l with
    |nil=>simp[PList]
    |cons b l ih=>simp only[List.map_cons,PList];exact⟨_,_,rfl,by simp[PRel],ih⟩
   ·rw[List.all_eq_true];intro x hx;simp at hx;obtain⟨_,_,rfl⟩:=hx;rfl
  ·simp[Q.run]at i
 ·simp[Q.run]at i
theorem Kh{t u ty e:TypeId}{D:TypeDesc}{i:TypeInfo}{z:Value}(K:P.underlying t=some (.slice e))(N:P.underlying u=some D)(F:D= .string∨ ∃J,D= .slice J)(hi:P.info? e=some i)(O:i.zero=some z)
  {base:Option Addr} {ln np n:Nat} {cx:Value} {yR news:List Value} (U:(Builtin.lenOf cx).run P w= .ok n w) (Gs:(Builtin.firstCells i.size n cx).run P w.drew= .ok news.toArray w.drew) (r:(Builtin.firstCells i.size ln (.slice base ln np)).run P w.drew= .ok yR.toArray w.drew)
  (V:np<ln+n) (W:(ln+n)*i.bytes≤1099511627776) (X:i.bytes≠0):
  (Builtin.append_ #[t,u] ty #[.slice base ln np,cx]).run P w= .ok (.slice (some ⟨w.heap.size,0,none⟩) (ln+n) (grownCap w (ln+n) np e))
     (w.drew.alloc (.cells (yR.toArray++news.toArray++Builtin.zeroCells z.cells (grownCap w (ln+n) np e-(ln+n))) e)):=by
 have H: ¬(ln+n≤np):=by omega
 have Y:ln+n≤(ln+n)*i.bytes:=Nat.le_mul_of_pos_right _ (by omega)
 have B6: ¬(9223372036854775807<((ln:Int)+(n:Int))):=by omega
 have I: ¬(281474976710656<Builtin.nextslicecap (ln+n) np*i.bytes):=by have:=Rg V W X;omega
 rcases F with rfl|⟨J,rfl⟩ <;>
 ·simp[Builtin.append_,run_underlying K,run_underlying N,sizeOf,typeInfo,zeroValue,hi,O,U,H,B6,I,Question.forced,Gs,r,newRow,grownCap]
  grind
theorem uV{t u ty e:TypeId}{D:TypeDesc}{i:TypeInfo}(H:P.underlying t=some (.slice e))(I:P.underlying u=some D)(F:D= .string∨ ∃J,D= .slice J)(hi:P.info? e=some i)
  {base:Option Addr} {ln np n:Nat} {cx:Value} {news:List Value} {w':World} (K:(Builtin.lenOf cx).run P w= .ok n w) (Gs:(Builtin.firstCells i.size n cx).run P w= .ok news.toArray w)
  (N:ln+n≤np) (r:match base with|some ad=>(storeCells (ad.add (ln*i.size)) news).run P w= .ok () w'|none=>w'=w):
  (Builtin.append_ #[t,u] ty #[.slice base ln np,cx]).run P w= .ok (.slice base (ln+n) np) w':=by
 rcases F with rfl|⟨J,rfl⟩ <;>
 ·cases base with
  |none=>
   dsimp only at r;subst r
   simp[Builtin.append_,run_underlying H,run_underlying I,sizeOf,typeInfo,hi,K,N,Gs]
  |some ad=>
   dsimp only at r
   simp[Builtin.append_,run_underlying H,run_underlying I,sizeOf,typeInfo,hi,K,N,Gs,r]
theorem aaL{bx:Bool}(h:iU B st w β M)(el:TypeId)(c:Array Value)(cs:List T)(wm:Nat)(sp:Sp)(k g:Nat)(r:st.gens sp k<g)
  (D:PList w M cs (c.toList.take cs.length)) (hs:cs.all single=true) (i:cs.length≤c.size) (Kc:wm≤cs.length):
  iU B (st.up (sp,k,⟨g,.cells cs wm bx⟩)) (w.alloc (.cells c el)) (nv β sp k g ⟨w.heap.size,0,c.size⟩) (fun b x=>M b x∨b=w.heap.size)∧
  Tr st w β M (st.up (sp,k,⟨g,.cells cs wm bx⟩)) (w.alloc (.cells c el)) (nv β sp k g ⟨w.heap.size,0,c.size⟩) (fun b x=>M b x∨b=w.heap.size):=by
 refine U6 h sp k g r (.cells c el) c.size (.cells cs wm bx) ?_
 unfold kY
 simp only[jA]
 refine⟨c,el,(0,0),by rw[heap_alloc,if_pos rfl],by omega,i,rfl, ?_,fun j _ _=>Or.inr (by trivial),hs,Kc⟩
 simp only[List.drop_zero]
 exact pI.ofP (PList.mono (tB w M _) _ _ D)
variable(kV:pJ β st.gens w M st.rho a.eval)(h:iU B st w β M)
include kV h
theorem ahZ{d:Nat}{sh nm:Bool}{c:Call}{t u e:TypeId}{ud:TypeDesc}{i:TypeInfo}{z:Value}{s x:Operand}{s' x':iF}(ho:o.op= .call c)(hb:c.callee= .builtin .append)(yS:c.argTypes.toList= [t,u])(has:c.args.toList= [s,x])
  (ht:P.underlying t=some (.slice e)) (H:P.underlying u=some ud) (W:ud= .string∨ ∃e',ud= .slice e') (hi:P.info? e=some i) (hz:i.zero=some z) (po:i.size=z.cells.size) (h0:i.size≠0) (hby:i.bytes≠0) (hs:lW s=some s') (hx:lW x=some x')
  (r:(jk d st.rho (.app i.size i.bytes s' x' sh nm)).run st.get st.sh.length=some (.val v ups)):lB P B st a w β M o v ups:=by
 have V:=kV s s' hs
 have vx:=kV x x' hx
 have Ab:c.argTypes= #[t,u]:=by apply Array.ext';simp[yS]
 have K: ∀cv w',(Builtin.append_ #[t,u] o.type #[a.eval s,a.eval x]).run P w= .ok cv w'→(execOp a.eval o).run P w= .ok (.value cv) w':=by
  intro cv w' hr
  rw[ll ho hb,aaB has,Ab]
  simp[builtin,hr]
 simp only[jk,qM,Q.run_bind]at r
 cases nk:(jL i.size (st.rho x')).run st.get st.sh.length with
 |none=>grind
 |some p=>
  obtain⟨n,xs⟩:=p
  simp only[nk,Option.bind_some]at r
  obtain⟨news,Z,n1,n2,n3⟩:=FC (P:=P) h vx nk
  have Ki:news.length=n*i.size:=by rw[←PList.length _ _ n1,n3]
  by_cases ZO:n=0
  ·rw[if_pos ZO]at r
   subst ZO
   have Gs:news= []:=by apply List.eq_nil_of_length_eq_zero;simpa using Ki
   subst Gs
   have same: ∀base ln np,a.eval s= .slice base ln np→ln≤np→lB P B st a w β M o (st.rho s') []:=by
    intro base ln np es hle
    refine iM h (cv:= .slice base ln np) ?_ (by rw[←es];exact V)
    have:=uV (P:=P) (w:=w) (w':=w) (t:=t) (u:=u) (ty:=o.type) (base:=base) (ln:=ln) (np:=np) (cx:=a.eval x) (n:=0) (news:= []) ht H W hi (Z w rfl).1 (Z w rfl).2 (by omega) (by cases base <;> simp[storeCells])
    exact K _ _ (by rw[es];exact this)
   grind [Q.run,fx,PRel]
  ·rw[if_neg ZO]at r
   have hz0:z.cells.size≠0:=by omega
   have N: ∀(bx:Bool) (base:Option Addr) (ln np:Nat) (yR:List Value) (X:List T) (sp:Sp) (k g wm:Nat),a.eval s= .slice base ln np→np<ln+n→(ln+n)*i.bytes≤1099511627776→PList w M X yR→X.all single=true→X.length=ln*i.size→
     (Builtin.firstCells i.size ln (.slice base ln np)).run P w.drew= .ok yR.toArray w.drew→st.gens sp k<g→wm≤X.length→lB P B st a w β M o (.isl sp k g 0 (ln+n) i.size) [(sp,k,⟨g,.cells (X++xs) wm bx⟩)]:=by
    intro bx base ln np yR X sp k g wm es oF I ho1 ho2 ho3 hfc hg Kc
    have hr:=Kh (P:=P) (w:=w) (t:=t) (u:=u) (ty:=o.type) (base:=base) (ln:=ln) (np:=np) (cx:=a.eval x) (n:=n) (yR:=yR) (news:=news) ht H W hi hz (Z w rfl).1 (Z w.drew rfl).2 hfc oF I hby
    obtain⟨hd1,hd2⟩:=Ho h (w.drawn+1)
    have hol:yR.length=ln*i.size:=by rw[←PList.length _ _ ho1,ho3]
    have DF:=grownCap_ge w (ln+n) np e
    have hcs:(yR.toArray++news.toArray++Builtin.zeroCells z.cells (grownCap w (ln+n) np e-(ln+n))).size=grownCap w (ln+n) np e*i.size:=by
     rw[Array.size_append,Array.size_append,size_zeroCells]
     simp only[List.size_toArray,hol,Ki,←po]
     rw[←Nat.add_mul,←Nat.add_mul];congr 1;omega
    have D:(X++xs).length=yR.length+news.length:=by simp[ho3,n3,hol,Ki]
    obtain⟨r1,r2⟩:=aaL (bx:=bx) hd1 e (yR.toArray++news.toArray++Builtin.zeroCells z.cells (grownCap w (ln+n) np e-(ln+n))) (X++xs) wm sp k g hg (by
     have:(yR.toArray++news.toArray++Builtin.zeroCells z.cells (grownCap w (ln+n) np e-(ln+n))).toList.take (X++xs).length=yR++news:=by
      rw[D]
      simp only[Array.toList_append,List.toList_toArray]
      rw[List.take_append_of_le_length (by simp)]
      exact List.take_of_length_le (by simp)
     rw[this]
     exact PList.mono hd2.keep _ _ (PList.append ho1 n1)) (by simp only[List.all_append,Bool.and_eq_true];exact⟨ho2,n2⟩) (by
     rw[hcs,D,hol,Ki,←Nat.add_mul];exact Nat.mul_le_mul_right _ DF) (by simp;omega)
    refine⟨_,_,_,_,_,K _ _ (by rw[es];exact hr),.inl rfl,r1,hd2.trans r2 (Nat.le_refl _), ?_, ?_⟩
    ·show w.heap.size≤(w.heap.push _).size;simp
    ·simp only[fx]
     refine⟨by simp[St.ups,lH],grownCap w (ln+n) np e, ?_,DF, ?_⟩
     ·rw[jA]
     ·rw[jA,hcs];exact Nat.le_of_eq (Nat.zero_add _)
   split at r
   ·rename_i es
    rw[es]at V;simp only[fx]at V
    split at r
    ·rename_i I
     unfold roomy at I
     obtain⟨sp,k,g,rfl,rfl,hg,_⟩:=oV r
     have:=N (nm&& !sh) none 0 0 [] [] sp k g 0 V (by omega) (by simpa using I) (by simp[PList]) rfl (by simp) (by simp[Builtin.firstCells]) hg (Nat.zero_le _)
     simpa using this
    ·simp[Q.run]at r
   ·rename_i cs len es
    rw[es]at V;simp only[fx,PRel]at V
    obtain⟨blk,off,F,kK,e1,e2,e3,e5,e4⟩:=V
    have:=e3 trivial;subst this
    split at r
    ·rename_i I
     simp at I
     unfold roomy at I
     obtain⟨sp,k,g,rfl,rfl,hg,_⟩:=oV r
     obtain⟨ol,f1,f2,f3,f4⟩:=PCells.load (P:=P) e4
     refine N false _ _ _ ol cs sp k g 0 e1 (by omega) I.2 f3 f4 I.1 ?_ hg (Nat.zero_le _)
     have:=run_loadCells_list (P:=P) w.drew ⟨blk,off,kK⟩ ol (fun j u H=>by
      rcases e5 with e5|e5
      ·subst e5
       rw[kZ];have:=f2 j u H;unfold World.cell? at this ⊢; exact this
      ·exfalso
       have h0:ol= []:=List.length_eq_zero_iff.1 (by rw[f1,I.1,e5,Nat.zero_mul])
       subst h0;simp at H)
     rw[f1,I.1]at this
     simp[Builtin.firstCells,this]
    ·simp[Q.run]at r
   ·rename_i sp k g off len sz es
    rw[es]at V;simp only[fx]at V
    obtain⟨q1,F,e1,e2,e3⟩:=V
    split at r
    ·rename_i I
     simp at I
     unfold roomy at I
     obtain⟨⟨rfl,rfl⟩,I⟩:=I
     simp only[Q.run]at r
     split at r
     ·rename_i hg
      have B2:=h.obj sp k
      generalize he:st.get sp k=en at*
      obtain⟨ge,ob⟩:=en
      dsimp only at hg;subst hg
      cases ob with
      |none=>simp[Q.run]at r
      |map _ _ _=>simp[Q.run]at r
      |cells cs wm bx=>
       cases bx with
       |true=>simp[Q.run]at r
       |false=>
        dsimp only at r
        split at r
        ·rename_i D
         simp[Q.run]at r;obtain⟨rfl,rfl⟩:=r
         unfold kY at B2
         obtain⟨J,el,fz,O,h2,h3,h4,h5,h6,h7,h8⟩:=B2
         dsimp only at O h2 h3 h4 h5 h6
         subst h4
         have Gt:st.gens sp k=ge:=by show(st.get sp k).g=ge;rw[he]
         by_cases DO:len+n≤F
         ·have Vm:(len+n)*i.size≤F*i.size:=Nat.mul_le_mul_right _ DO
          rw[Nat.add_mul]at Vm
          have Vi:=gP.one (PList.toV β st.gens _ _ n1) n2
          have Y:=run_storeCells_at P (β sp k ge).blk ((β sp k ge).off+len*i.size) el news 0 J w O (by omega) Vi
          rw[qb O]at Y
          simp only[Nat.add_zero]at Y
          rw[DL _ _ _ (by simp;omega)]at Y
          have hr:=uV (P:=P) (w:=w) (t:=t) (u:=u) (ty:=o.type) (base:=some ⟨(β sp k ge).blk,(β sp k ge).off+0,none⟩) (ln:=len) (np:=F) (cx:=a.eval x) (n:=n) (news:=news) ht H W hi (Z w rfl).1 (Z w rfl).2 DO (by
           dsimp only;rw[kZ];simpa using Y)
          have U:=yN h he (ge+1) (Nat.le_succ _) O (len*i.size) news (cs++xs) (by omega) (by omega) (by simp;omega) (by simp[n3];omega) (by simp only[List.all_append,Bool.and_eq_true];exact⟨h7,n2⟩) (by
           show PList w M _ _
           have h5:PList w M cs _:=h5
           have:(splice (J.toList.drop (β sp k ge).off) (len*i.size) news).take (cs++xs).length=(J.toList.drop (β sp k ge).off).take cs.length++news:=by
            rw[←DL _ _ _ (by simp;omega),D,List.take_append_of_le_length (by simp[n3,Ki];omega)]
            exact List.take_of_length_le (by simp[n3,Ki];omega)
           rw[this]
           exact PList.append h5 n1)
          refine⟨_,_,_,_,_,K _ _ (by rw[e1];exact hr),.inl rfl,U.1,U.2,by rw[lv];exact Nat.le_refl _, ?_⟩
          simp only[fx]
          refine⟨by simp[St.ups,lH],F,by rw[jA],DO,by rw[jA];exact e3⟩
         ·have U9:PList w M cs ((J.toList.drop (β sp k ge).off).take cs.length):=h5
          refine N false _ len F ((J.toList.drop (β sp k ge).off).take cs.length) cs sp k (ge+1) wm e1 (by omega) I U9 h7 D.symm ?_ (by rw[Gt];omega) h8
          have MI:=PList.length _ _ U9
          have:=run_loadCells_list (P:=P) w.drew ⟨(β sp k ge).blk,(β sp k ge).off+0,none⟩ ((J.toList.drop (β sp k ge).off).take cs.length) (fun j u H=>by
           rw[kZ]
           rw[List.getElem?_take]at H
           split at H
           ·rw[List.getElem?_drop]at H
            unfold World.cell?
            show(match w.heap[(β sp k ge).blk]? with|some (.cells c _ _)=>if(none:Option Nat).isSome then none else c[(β sp k ge).off+0+j]? |_=>none)=some u
            rw[O];simpa using H
           ·cases H)
          rw[←MI]at this
          simp only[Builtin.firstCells]
          rw[D]
          exact this
        ·split at r
         ·rename_i ZP
          simp only[Bool.and_eq_true,decide_eq_true_eq]at ZP
          obtain⟨⟨⟨rfl,rfl⟩,D⟩,Kj⟩:=ZP
          simp[Q.run]at r;obtain⟨rfl,rfl⟩:=r
          unfold kY at B2
          obtain⟨J,el,fz,O,h2,h3,h4,h5,h6,h7,h8⟩:=B2
          dsimp only at O h2 h3 h4 h5 h6
          subst h4
          have Gt:st.gens sp k=ge:=by show(st.get sp k).g=ge;rw[he]
          have U9:PList w M cs ((J.toList.drop (β sp k ge).off).take cs.length):=h5
          have h5t:PList w M (cs.take (len*i.size)) ((J.toList.drop (β sp k ge).off).take (len*i.size)):=by
           have:=PList.take (len*i.size) U9
           rwa [List.take_take,Nat.min_eq_left (by omega)]at this
          have IW:(cs.take (len*i.size)).length=len*i.size:=by rw[List.length_take];omega
          have yS:(cs.take (len*i.size)).all single=true:=List.all_eq_true.2 fun x hx=>List.all_eq_true.1 h7 x (List.mem_of_mem_take hx)
          by_cases DO:len+n≤F
          ·have Vm:(len+n)*i.size≤F*i.size:=Nat.mul_le_mul_right _ DO
           rw[Nat.add_mul]at Vm
           have Vi:=gP.one (PList.toV β st.gens _ _ n1) n2
           have Y:=run_storeCells_at P (β sp k ge).blk ((β sp k ge).off+len*i.size) el news 0 J w O (by omega) Vi
           rw[qb O]at Y
           simp only[Nat.add_zero]at Y
           rw[DL _ _ _ (by simp;omega)]at Y
           have hr:=uV (P:=P) (w:=w) (t:=t) (u:=u) (ty:=o.type) (base:=some ⟨(β sp k ge).blk,(β sp k ge).off+0,none⟩) (ln:=len) (np:=F) (cx:=a.eval x) (n:=n) (news:=news) ht H W hi (Z w rfl).1 (Z w rfl).2 DO (by
            dsimp only;rw[kZ];simpa using Y)
           have U:=yN h he (ge+1) (Nat.le_succ _) O (len*i.size) news (cs.take (len*i.size)++xs) Kj (by omega) (by rw[List.length_append,IW];omega) (by rw[List.length_append,IW,n3];omega) (by simp only[List.all_append,Bool.and_eq_true];exact⟨yS,n2⟩) (by
            show PList w M _ _
            have:(splice (J.toList.drop (β sp k ge).off) (len*i.size) news).take (cs.take (len*i.size)++xs).length=(J.toList.drop (β sp k ge).off).take (len*i.size)++news:=by
             have hl9:len*i.size+news.length≤(J.toList.drop (β sp k ge).off).length:=by simp;omega
             rw[←DL _ _ _ (by simp;omega),List.length_append,IW,n3,←Ki]
             rw[List.take_append_of_le_length (by simp;omega)]
             exact List.take_of_length_le (by simp;omega)
            rw[this]
            exact PList.append h5t n1)
           refine⟨_,_,_,_,_,K _ _ (by rw[e1];exact hr),.inl rfl,U.1,U.2,by rw[lv];exact Nat.le_refl _, ?_⟩
           simp only[fx]
           refine⟨by simp[St.ups,lH],F,by rw[jA],DO,by rw[jA];exact e3⟩
          ·refine N false _ len F ((J.toList.drop (β sp k ge).off).take (len*i.size)) (cs.take (len*i.size)) sp k (ge+1) wm e1 (by omega) I h5t yS IW ?_ (by rw[Gt];omega) (by rw[IW];exact Kj)
           have MI:=PList.length _ _ h5t
           rw[IW]at MI
           have:=run_loadCells_list (P:=P) w.drew ⟨(β sp k ge).blk,(β sp k ge).off+0,none⟩ ((J.toList.drop (β sp k ge).off).take (len*i.size)) (fun j u H=>by
            rw[kZ]
            rw[List.getElem?_take]at H
            split at H
            ·rw[List.getElem?_drop]at H
             unfold World.cell?
             show(match w.heap[(β sp k ge).blk]? with|some (.cells c _ _)=>if(none:Option Nat).isSome then none else c[(β sp k ge).off+0+j]? |_=>none)=some u
             rw[O];simpa using H
            ·cases H)
           rw[←MI]at this
           simp only[Builtin.firstCells]
           exact this
         ·simp[Q.run]at r
     ·simp[Q.run]at r
    ·simp[Q.run]at r
   ·simp[Q.run]at r
end
end Go.Ev
namespace Go.Ev
open Go
theorem aaM{P:Program}{β:iL}{G:Sp→Nat→Nat}{w:World}{M:iB}{s t e:TypeId}{k:Nat}{ex:Bool}{v:Value}(hs:P.underlying s=some (.slice e))(J:P.underlying e=some (.int .u8))(K:P.underlying t=some .string)(H:fx β G w M (.sl [.i .u8 (k:Int)] 1 ex) v)(hk:k<256):
  ∃I,(convert s t v).run P w= .ok (.string I) w∧bytesN I= [k]:=by
 simp only[fx,PRel,PCells]at H
 obtain⟨r,off,N,sp,rfl,V,W,O,⟨u,U,X,rfl,Y⟩,_⟩:=H
 have D:sp=none:=O.resolve_right (by omega)
 subst D
 have:=run_loadCells_list (P:=P) w ⟨r,off,none⟩ [.int .u8 k] (fun j u F=>by
  cases j with
  |zero=>simp at F;subst F;rw[kZ];exact U
  |succ j=>simp at F)
 simp only[List.length_cons,List.length_nil,Nat.zero_add]at this
 refine⟨ByteArray.empty.push (UInt8.ofNat k), ?_, ?_⟩
 ·simp[convert,run_underlying hs,run_underlying K,run_underlying J,Conv.bytesToString,this]
 ·have:(UInt8.ofNat k).toNat=k:=by simp[UInt8.toNat_ofNat'];omega
  show [(UInt8.ofNat k).toNat]= [k]
  rw[this]
section
variable{P:Program}{B:l8}{st:St}{a:Act}{w:World}{β:iL}{M:iB}{o:Oper}{v:T}{ups:List Up}
theorem qU{x:Option T}{h:Sp→Nat→b8}{i:Nat}(r:(Ev.val x).run h i=some (.val v ups)):x=some v∧ups= []:=by
 cases x with
 |none=>simp[Ev.val,Q.run]at r
 |some y=>grind [Ev.val,Q.run]
theorem aaN(kV:pJ β st.gens w M st.rho a.eval)(h:iU B st w β M){c:Call}(i:o.op= .call c){sh:Nat}{Mh:mH}{d:Nat}(hc:sI P sh c=some Mh)
  (r:(jk d st.rho Mh).run st.get st.sh.length=some (.val v ups)):lB P B st a w β M o v ups:=by
 unfold sI at hc
 split at hc
 ·grind [Option.map_eq_some_iff,jk,Q.run]
 ·grind [jk,Q.run]
 ·grind [jk,Q.run,aaC,aaD,aaE,aaF]
 ·rename_i D
  split at hc
  ·rename_i t u x y F H
   split at hc
   ·grind [ahZ]
   ·cases hc
  ·cases hc
 ·grind [Option.map_eq_some_iff,afD]
 ·grind [Option.map_eq_some_iff,afD]
 ·cases hc
theorem ah0(kV:pJ β st.gens w M st.rho a.eval)(h:iU B st w β M){s t e:TypeId}{x:Operand}{r:iF}(H:o.op= .convert s t x)(hx:lW x=some r)(hs:P.underlying s=some (.slice e))(I:P.underlying e=some (.int .u8))(J:P.underlying t=some .string){k:Nat}{ex:Bool}(K:st.rho r= .sl [.i .u8 (k:Int)] 1 ex)(hk:k<256):lB P B st a w β M o (.s [k]) []:=by
 have D:=kV x r hx
 rw[K]at D
 obtain⟨F,N,O⟩:=aaM hs I J D hk
 exact iM h (cv:= .string F) (by simp[execOp,H,N]) (by simp only[fx];exact⟨F,rfl,O⟩)
theorem arF(kV:pJ β st.gens w M st.rho a.eval)(h:iU B st w β M){sh:Nat}{Mh:mH}{d:Nat}(hc:jZ P sh o.op=some Mh)
  (i:(jk d st.rho Mh).run st.get st.sh.length=some (.val v ups)):lB P B st a w β M o v ups:=by
 cases Gu:o.op with
 |move x=>
  grind [jZ,Option.map_eq_some_iff,jk,Q.run,afC]
 |assign x=>
  rw[Gu]at hc;simp only[jZ,Option.map_eq_some_iff]at hc
  obtain⟨y,D,rfl⟩:=hc
  simp[jk,Q.run]at i;obtain⟨rfl,rfl⟩:=i
  simp_all[afC]
 |pick c x y=>
  grind [jZ,jk,Q.run,aaw]
 |alloc t=>
  grind [jZ,Vf]
 |box t x=>
  grind [jZ,Option.map_eq_some_iff,ahS]
 |build t V=>
  grind [jZ,Option.map_eq_some_iff,Vc]
 |buildSlice t len V=>
  grind [jZ,ahV]
 |load t x=>
  grind [jZ,arj]
 |store t x y=>
  grind [jZ,ary]
 |nilCheck x=>
  grind [jZ,Option.map_eq_some_iff,ahC]
 |binOp op t x y t'=>
  rw[Gu]at hc;simp only[jZ]at hc
  split at hc
  ·rename_i x' y' D H
   split at hc
   ·rename_i hk
    simp at hc;subst hc
    obtain⟨e1,rfl⟩:=qU i
    simp only[Option.map_eq_some_iff]at e1
    obtain⟨r,I,rfl⟩:=e1
    exact OQ (neg:=false) kV h Gu D H (by have:=tD hk;simp[Dw,this]) (by simp) I
   ·rename_i hk
    simp at hc;subst hc
    obtain⟨e1,rfl⟩:=qU i
    simp only[Option.map_eq_some_iff]at e1
    obtain⟨r,I,rfl⟩:=e1
    exact OQ (neg:=true) kV h Gu D H (by have:=tD hk;simp[Dw,this]) (by simp) I
   ·simp at hc;subst hc
    obtain⟨e1,rfl⟩:=qU i
    grind [ahD]
   ·rename_i hk
    simp only[Option.map_eq_some_iff]at hc
    obtain⟨k,F,rfl⟩:=hc
    obtain⟨e1,rfl⟩:=qU i
    simp only[Option.map_eq_some_iff]at e1
    obtain⟨r,I,rfl⟩:=e1
    refine OQ (neg:=false) kV h Gu D H F ?_ I
    have O:=qR F
    grind
   ·rename_i hk
    simp only[Option.map_eq_some_iff]at hc
    obtain⟨k,F,rfl⟩:=hc
    obtain⟨e1,rfl⟩:=qU i
    simp only[Option.map_eq_some_iff]at e1
    obtain⟨r,I,rfl⟩:=e1
    refine OQ (neg:=true) kV h Gu D H F ?_ I
    have O:=qR F
    grind
   ·cases hc
  ·cases hc
 |unOp op t x=>
  rw[Gu]at hc;simp only[jZ,Option.map_eq_some_iff]at hc
  obtain⟨y,D,rfl⟩:=hc
  obtain⟨e1,rfl⟩:=qU i
  grind [ari]
 |convert s t x=>
  rw[Gu]at hc;simp only[jZ]at hc
  split at hc
  ·grind [jk,Q.run,ahF]
  ·rename_i e y D H F
   split at hc
   ·rename_i N
    simp at hc;subst hc
    simp only[jk]at i
    split at i
    ·rename_i k ex K
     split at i
     ·rename_i hk
      simp[Q.run]at i;obtain⟨rfl,rfl⟩:=i
      exact ah0 kV h Gu F D N H K hk
     ·simp[Q.run]at i
    ·simp[Q.run]at i
   ·cases hc
  ·cases hc
 |makeFunc W first X=>
  rw[Gu]at hc
  cases W <;> simp only[jZ]at hc <;> try (cases hc;done)
  grind [jk,Q.run,aaz]
 |makeMap t r=>
  rw[Gu]at hc
  cases r <;> simp only[jZ]at hc
  ·grind [Vg]
  ·cases hc
 |makeSlice t l c=>
  grind [jZ,aaG]
 |slice t x l Y m=>
  rw[Gu]at hc;simp only[jZ]at hc
  split at hc
  ·rename_i y Z h' D H F N K
   simp at hc;subst hc
   have U:m=none:=by cases m <;> simp[uz]at K ⊢
   grind [ahM]
  ·rename_i e y Z h' m' D H F N K
   split at hc
   ·rename_i n hn
    split at hc
    ·rename_i J
     simp at J hc;subst hc
     refine ahN kV h Gu H F N K D hn J.1 ?_ i
     intro U
     rcases J.2 with e1|e1
     ·cases m with
      |none=>simp at U
      |some mm=>grind [uz,Option.map_eq_some_iff]
     ·cases Y with
      |none=>grind [uz]
      |some _=>rfl
    ·cases hc
   ·cases hc
  ·cases hc
 |fieldAddr s x f=>
  grind [jZ,ark]
 |field s x f=>
  grind [jZ,ahI]
 |indexAddr t x j=>
  grind [jZ,arl,ahL]
 |index t x j=>
  grind [jZ,ahK,ahJ]
 |lookup t m k ok=>
  grind [jZ,arC]
 |mapUpdate t m k x=>
  grind [jZ,Option.map_eq_some_iff,arD]
 |extract x j=>
  rw[Gu]at hc;simp only[jZ,Option.map_eq_some_iff]at hc
  obtain⟨y,D,rfl⟩:=hc
  simp only[jk]at i
  split at i
  ·rename_i vs e
   obtain⟨e1,rfl⟩:=qU i
   grind [ahG]
  ·simp[Q.run]at i
 |call c=>grind [jZ,aaN]
 |_=>grind [jZ]
end
end Go.Ev
