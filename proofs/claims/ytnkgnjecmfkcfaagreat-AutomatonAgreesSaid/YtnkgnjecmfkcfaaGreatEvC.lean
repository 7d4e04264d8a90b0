/- A tree evaluator over the model, proved against it (part C): where it answers, the call returns that answer. Conditions: none beyond its theorems' own. -/
import Derived.Test.YtnkgnjecmfkcfaaGreatEvB
import Derived.Laws.Tables
set_option linter.unusedSimpArgs false
set_option linter.unusedVariables false
namespace Go.Ev
open Go
theorem uE{P:Program}{t:TypeId}{z:T}(h:nz P t=some z): ∃i r,P.info? t=some i∧i.zero=some r∧As r=some z:=by
 unfold nz at h
 cases hi:P.info? t with
 |none=>simp[hi]at h
 |some i=>
  simp only[hi,Option.bind_some]at h
  cases D:i.zero with
  |none=>simp[D]at h
  |some r=>grind
theorem DB{P:Program}{t:TypeId}{z:T}(h:nz P t=some z)(w:World): ∃r,(zeroValue t).run P w= .ok r w∧ ∀w M,PRel w M z r:=by
 obtain⟨i,r,h1,h2,h3⟩:=uE h
 exact⟨r,by simp[zeroValue,typeInfo,h1,h2],fun w M=>lH h3⟩
theorem oK{β:aO}{G:Sp→Nat→Nat}{w:World}{M:MSet}{t:T}{cv:Value}(h:aq β G w M t cv)(r:noTup t=true):av β G w M (cellsOf t) cv.cells.toList∧(cellsOf t).all single=true:=by
 cases t
 case agg cs=>
  simp only[aq]at h
  obtain⟨a,rfl,h1,h2⟩:=h
  exact⟨h1,h2⟩
 case tup cs=>simp[noTup]at r
 case any=>simp[noTup]at r
 all_goals
  have D:=h
  simp only[aq,PRel]at h
  refine⟨?_,rfl⟩
  simp only[cellsOf,av]
  refine⟨cv,[], ?_,D,rfl⟩
  first
   |(subst h;rfl)
   |(obtain⟨_,rfl,_⟩:=h;rfl)
   |(obtain⟨_,_,rfl,_⟩:=h;rfl)
   |(obtain⟨_,_,_,rfl,_⟩:=h;rfl)
   |(obtain⟨_,_,_,_,rfl,_⟩:=h;rfl)
   |(obtain⟨_,rfl⟩:=h;rfl)
theorem uF{w:World}{M:MSet}{t:T}{cv:Value}(h:PRel w M t cv)(r:noTup t=true):PList w M (cellsOf t) cv.cells.toList∧(cellsOf t).all single=true:=by
 cases t
 case agg cs=>
  simp only[PRel]at h
  obtain⟨a,rfl,h1,h2⟩:=h
  exact⟨h1,h2⟩
 case tup cs=>simp[noTup]at r
 case any=>simp[noTup]at r
 case isl=>simp only[PRel]at h
 case ptr=>simp only[PRel]at h
 case mp=>simp only[PRel]at h
 all_goals
  have D:=h
  simp only[PRel]at h
  refine⟨?_,rfl⟩
  simp only[cellsOf,PList]
  refine⟨cv,[], ?_,D,rfl⟩
  first
   |(subst h;rfl)
   |(obtain⟨_,rfl,_⟩:=h;rfl)
   |(obtain⟨_,_,rfl,_⟩:=h;rfl)
   |(obtain⟨_,_,_,rfl,_⟩:=h;rfl)
   |(obtain⟨_,_,_,_,rfl,_⟩:=h;rfl)
theorem cQ{α:Type}: ∀(cs:List α) (off:Nat) (r:List α),(splice cs off r).length=cs.length
 |cs,0,[]=>by grind [splice]
 | [],0,v::r=>by simp[splice]
 |c::cs,0,v::r=>by simp[splice,cQ cs 0 r]
 | [],off+1,r=>by simp[splice]
 |c::cs,off+1,r=>by simp[splice,cQ cs off r]
theorem lK{α:Type}: ∀(cs:List α) (off:Nat),splice cs off []=cs
 |cs,0=>by grind [splice]
 | [],off+1=>by simp[splice]
 |c::cs,off+1=>by simp[splice,lK cs off]
theorem xU{α:Type}: ∀(cs:List α) (off:Nat) (v:α) (r:List α),splice (cs.set off v) (off+1) r=splice cs off (v::r)
 | [],off,v,r=>by grind [splice]
 |c::cs,0,v,r=>by simp[splice]
 |c::cs,off+1,v,r=>by simp[splice,xU cs off v r]
theorem eN{α:Type}: ∀(cs:List α) (off:Nat) (r:List α) (j:Nat),(splice cs off r)[j]? =if off≤j∧j<off+r.length∧j<cs.length then r[j-off]? else cs[j]?
 |cs,0,[],j=>by rw[lK];simp
 | [],0,v::r,j=>by simp[splice]
 |c::cs,0,v::r,0=>by simp[splice]
 |c::cs,0,v::r,j+1=>by simp[splice,eN cs 0 r j]
 | [],off+1,r,j=>by simp[splice]
 |c::cs,off+1,r,0=>by simp[splice]
 |c::cs,off+1,r,j+1=>by
  simp only[splice,List.getElem?_cons_succ,eN cs off r j,List.length_cons]
  grind
theorem av.splice{β:aO}{G:Sp→Nat→Nat}{w:World}{M:MSet}: ∀{cs:List T} {r:List Value} {off:Nat} {D:List T} {K9:List Value},av β G w M cs r→av β G w M D K9→av β G w M (splice cs off D) (splice r off K9)
 |cs,r,0,[],K9,h1,h2=>by grind [av,lK]
 | [],r,0,v::D,K9,h1,h2=>by grind [av,Ev.splice]
 |c::cs,r,0,v::D,K9,h1,h2=>by
  simp only[av]at h1 h2
  obtain⟨a,as,rfl,H,F⟩:=h1
  obtain⟨u,us,rfl,I,J⟩:=h2
  simp only[Ev.splice,av]
  exact⟨u,_,rfl,I,av.splice F J⟩
 | [],r,off+1,D,K9,h1,h2=>by simp_all[av,Ev.splice]
 |c::cs,r,off+1,D,K9,h1,h2=>by
  simp only[av]at h1
  obtain⟨a,as,rfl,H,F⟩:=h1
  simp only[Ev.splice,av]
  exact⟨a,_,rfl,H,av.splice F h2⟩
theorem PList.splice{w:World}{M:MSet}: ∀{cs:List T} {r:List Value} {off:Nat} {D:List T} {K9:List Value},PList w M cs r→PList w M D K9→PList w M (splice cs off D) (splice r off K9)
 |cs,r,0,[],K9,h1,h2=>by grind [PList,lK]
 | [],r,0,v::D,K9,h1,h2=>by grind [PList,Ev.splice]
 |c::cs,r,0,v::D,K9,h1,h2=>by
  simp only[PList]at h1 h2
  obtain⟨a,as,rfl,H,F⟩:=h1
  obtain⟨u,us,rfl,I,J⟩:=h2
  simp only[Ev.splice,PList]
  exact⟨u,_,rfl,I,PList.splice F J⟩
 | [],r,off+1,D,K9,h1,h2=>by simp_all[PList,Ev.splice]
 |c::cs,r,off+1,D,K9,h1,h2=>by
  simp only[PList]at h1
  obtain⟨a,as,rfl,H,F⟩:=h1
  simp only[Ev.splice,PList]
  exact⟨a,_,rfl,H,PList.splice F h2⟩
theorem oL{p:T→Bool}{cs r:List T}{off:Nat}(h1:cs.all p=true)(h2:r.all p=true):(splice cs off r).all p=true:=by
 grind [List.all_eq_true,eN,List.getElem?_of_mem]
theorem wU(off:Nat): ∀(D:List Value) (s:Nat) (r:Array Value),((D.zipIdx s).foldl (fun(cs:Array Value) (p:Value×Nat)=>cs.setIfInBounds (off+p.2) p.1) r).toList=splice r.toList (off+s) D
 | [],s,r=>by simp[lK]
 |v::D,s,r=>by
  simp only[List.zipIdx_cons,List.foldl_cons]
  rw[wU off D (s+1),Array.toList_setIfInBounds,←Nat.add_assoc,xU]
theorem Nx{β:aO}{G:Sp→Nat→Nat}{w:World}{M:MSet}{place:Nat→Option (Nat×Nat)}: ∀(parts:List (Nat×Value)) (F:List (Nat×List T)) (H:List T) (D:Array Value) (rs:List T),
  av β G w M H D.toList→H.all single=true→parts.length=F.length→(∀(j i:Nat) (cv:Value) (off:Nat) (ts:List T),parts[j]? =some (i,cv)→F[j]? =some (off,ts)→place i=some (off,ts.length)∧av β G w M ts cv.cells.toList∧ts.all single=true)→
  kG H F=some rs→ ∃rc,Instr.fill place D parts=some rc∧av β G w M rs rc.toList∧rs.all single=true
 | [],F,H,D,rs,J,hs,r,K,I=>by
   grind [kG,Instr.fill]
 |(i,cv)::parts,F,H,D,rs,J,hs,r,K,I=>by
  cases F with
  |nil=>simp at r
  |cons p F=>
   obtain⟨off,ts⟩:=p
   simp only[kG]at I
   split at I
   ·rename_i O
    obtain⟨X,N,U⟩:=K 0 i cv off ts rfl rfl
    have Kz:=av.length _ _ N
    have SD:=av.length _ _ J
    have V:cv.cells.size=ts.length:=by rw[Kz];simp
    have W:D.size=H.length:=by rw[SD];simp
    have hc: ¬((cv.cells.size≠ts.length||off+cv.cells.size>D.size)=true):=by
     grind
    have e:(cv.cells.zipIdx.foldl (fun(cs:Array Value) (p:Value×Nat)=>cs.setIfInBounds (off+p.2) p.1) D).toList=splice D.toList off cv.cells.toList:=by
     have:=wU off cv.cells.toList 0 D
     grind [Array.toList_zipIdx]
    obtain⟨rc,Y,Z,r3⟩:=Nx parts F (splice H off ts) (cv.cells.zipIdx.foldl (fun(cs:Array Value) (p:Value×Nat)=>cs.setIfInBounds (off+p.2) p.1) D) rs
     (by rw[e];exact av.splice J N) (oL hs U) (by simpa using r) (fun j i cv off ts a b=>K (j+1) i cv off ts (by simpa using a) (by simpa using b)) I
    grind [Instr.fill]
   ·cases I
section
variable{P:Program}{B:eS}{st:St}{a:Act}{w:World}{β:aO}{M:MSet}{o:Oper}{v:T}{ups:List Up}
theorem uG{F:List (Nat×Nat)}: ∀{D:List (Nat×Operand)} {r:List (Nat×Nat×aP)},placesOf F D=some r→D.length=r.length∧ ∀(j i:Nat) (x:Operand) (off n:Nat) (y:aP),D[j]? =some (i,x)→r[j]? =some (off,n,y)→F[i]? =some (off,n)∧eL x=some y
 | [],r,h=>by grind [placesOf]
 |(H,x0)::D,r,h=>by
  simp only[placesOf]at h
  split at h
  ·rename_i p y I h1 h2 h3
   simp at h;subst h
   obtain⟨a1,a2⟩:=uG h3
   grind
  ·cases h
theorem sy{sz:Nat}: ∀{D:List (Nat×Operand)} {r:List (Nat×Nat×aP)},lu sz D=some r→D.length=r.length∧ ∀(j i:Nat) (x:Operand) (off n:Nat) (y:aP),D[j]? =some (i,x)→r[j]? =some (off,n,y)→(off=i*sz∧n=sz)∧eL x=some y
 | [],r,h=>by grind [lu]
 |(F,x0)::D,r,h=>by
  simp only[lu]at h
  split at h
  ·rename_i y H h2 h3
   simp at h;subst h
   obtain⟨a1,a2⟩:=sy h3
   grind
  ·cases h
variable(dI:jS β st.gens w M st.rho a.eval)(h:ba B st w β M)
include dI h
theorem Vo{d nx:Nat}{t:TypeId}{D:Array (Nat×Operand)}{z:T}{r:List (Nat×Nat×aP)}(ho:o.op= .build t D)(hz:nz P t=some z)
  (O:(∃U H,P.underlying t=some (.struct U)∧U.toList.mapM (fun f=>(P.info? f.type).map fun i=>(f.offset,i.size))=some H∧placesOf H D.toList=some r)∨(∃n e sz,P.underlying t=some (.array n e)∧eI P e=some sz∧lu sz D.toList=some r))
  (EX:noTup z=true) (I:(bz d st.rho (.build (cellsOf z) r)).run st.get nx=some (.val v ups)):dV P B st a w β M o v ups:=by
 obtain⟨i,V,z1,z2,z3⟩:=uE hz
 have W:aq β st.gens w M z V:=PRel.toV _ _ _ _ (lH z3)
 obtain⟨X,Y⟩:=oK W EX
 simp only[bz]at I
 split at I
 ·rename_i bo
  cases Z:kG (cellsOf z) (r.map fun p=>(p.1,cellsOf (st.rho p.2.2)))with
  |none=>simp[Z,Ev.val,Q.run]at I
  |some rs=>
   simp[Z,Ev.val,Q.run]at I;obtain⟨rfl,rfl⟩:=I
   have parts: ∃place:Nat→Option (Nat×Nat),(∀rc,Instr.fill place V.cells (D.toList.map fun p=>(p.1,a.eval p.2))=some rc→P.built t (D.map fun(i,x)=>(i,a.eval x)).toList=some rc)∧D.toList.length=r.length∧
     ∀(j i:Nat) (x:Operand) (off n:Nat) (y:aP),D.toList[j]? =some (i,x)→r[j]? =some (off,n,y)→place i=some (off,n)∧eL x=some y:=by
    rcases O with⟨U,H,u1,u2,u3⟩|⟨n,e,sz,u1,u2,u3⟩
    ·obtain⟨g1,g2⟩:=uG u3
     refine⟨fun i=>H[i]?,fun rc F=> ?_,g1,g2⟩
     simp only[Program.built,z1,z2,u1,u2,Array.toList_map]
     have:(fun x:Nat=>H.toArray[x]?)=fun i=>H[i]? :=by funext i;simp
     rw[this];exact F
    ·obtain⟨g1,g2⟩:=sy u3
     have: ∃J,P.info? e=some J∧J.size=sz:=by
      simp_all[eI]
     obtain⟨J,v1,v2⟩:=this
     refine⟨fun i=>some (i*J.size,J.size),fun rc F=> ?_,g1,fun j i x off n y K N=> ?_⟩
     ·simp only[Program.built,z1,z2,u1,v1,Array.toList_map];exact F
     ·obtain⟨⟨rfl,rfl⟩,c⟩:=g2 j i x off n y K N
      exact⟨by rw[v2],c⟩
   obtain⟨place,q1,q2,q3⟩:=parts
   obtain⟨rc,r1,r2,r3⟩:=Nx (place:=place) (D.toList.map fun p=>(p.1,a.eval p.2)) _ (cellsOf z) V.cells rs X Y (by simp[q2]) (by
    intro j i cv off ts K N
    rw[List.getElem?_map,Option.map_eq_some_iff]at K N
    obtain⟨⟨i',x⟩,c1,c2⟩:=K
    obtain⟨⟨aBj,n,y⟩,c3,c4⟩:=N
    simp at c2 c4
    obtain⟨rfl,rfl⟩:=c2
    obtain⟨rfl,rfl⟩:=c4
    obtain⟨e1,e2⟩:=q3 j i' x aBj n y c1 c3
    have hv:=dI x y e2
    have Vp:=(List.all_eq_true.1 bo) _ (List.mem_of_getElem? c3)
    simp at Vp
    obtain⟨k1,k2⟩:=oK hv Vp.2
    exact⟨by rw[e1,Vp.1],k1,k2⟩) Z
   refine aR h (cv:= .agg rc) ?_ (by simp only[aq];exact⟨rc,rfl,r2,r3⟩)
   have:=run_build (P:=P) w t (D.map fun(i,x)=>(i,a.eval x)) rc (q1 rc r1)
   simp[execOp,ho,this]
 ·simp[Q.run]at I
end
end Go.Ev
namespace Go.Ev
open Go
theorem jx{st:St}{d:Nat}{sh:Bool}{ob:Ob}{f:Sp→Nat→Nat→T}{v:T}{ups:List Up}(h:(jh d sh ob f).run st.get st.sh.length=some (.val v ups)):
  ∃sp k g,v=f sp k g∧ups= [(sp,k,⟨g,ob⟩)]∧st.gens sp k<g∧(sp= .S→sh=true):=by
 grind [jh,Q.run,St.get,Dz,eH]
theorem uH{α:Type}(z:List α): ∀n,(repl z n).length=n*z.length
 |0=>by simp[repl]
 |n+1=>by simp[repl,uH z n,Nat.add_mul];omega
theorem H9{α:Type}(z:List α)(r:z≠ []): ∀(n j:Nat),j<n*z.length→(repl z n)[j]? =z[j%z.length]?
 |0,j,h=>by simp at h
 |n+1,j,h=>by
  have F:0<z.length:=List.length_pos_iff.2 r
  simp only[repl]
  by_cases D:j<z.length
  ·rw[List.getElem?_append_left D,Nat.mod_eq_of_lt D]
  ·rw[List.getElem?_append_right yv,H9 z r n (j-z.length) (by rw[Nat.add_mul]at h;omega)]
   grind [Nat.mod_eq_sub_mod]
theorem AB(z:Array Value)(n:Nat)(r:z.size≠0):((Array.range (n*z.size)).map (fun i=>z[i%z.size]!)).toList=repl z.toList n:=by
 apply List.ext_getElem?
 grind [H9,List.getElem?_eq_none,uH,Nat.mod_lt]
theorem PList.repl{w:World}{M:MSet}{z:List T}{r:List Value}(h:PList w M z r): ∀n,PList w M (Ev.repl z n) (Ev.repl r n)
 |0=>by simp[Ev.repl,PList]
 |n+1=>by simp only[Ev.repl];exact PList.append h (PList.repl h n)
theorem AD{z:List T}(h:z.all single=true): ∀n,(repl z n).all single=true
 |0=>by simp[repl]
 |n+1=>by simp only[repl,List.all_append,Bool.and_eq_true];exact⟨h,AD h n⟩
theorem Cz{P:Program}{w:World}{t e:TypeId}{i:TypeInfo}{r:Value}{k:IntKind}{m:Int}(F:P.underlying t=some (.slice e))(hi:P.info? e=some i)(H:i.zero=some r)(I:0≤m)(Vq:IntKind.i64.wrap m=m)
  (J:(i.bytes:Int)*m≤281474976710656) (K:m.toNat*i.bytes≤140737488355328):
  (Instr.makeSlice t (.int k m) (.int k m)).run P w= .ok (.slice (some ⟨w.heap.size,0,none⟩) m.toNat m.toNat) (w.alloc (.cells ((Array.range (m.toNat*i.size)).map (fun j=>r.cells[j%r.cells.size]!)) e)):=by
 have h1: ¬(m<0):=yv
 have h2: ¬(281474976710656<(i.bytes:Int)*m):=yv
 have h3: ¬(140737488355328<m.toNat*i.bytes):=yv
 have h4: ¬(m.toNat*i.bytes>roomBytes):=by unfold roomBytes;omega
 simp only[Instr.makeSlice,Sem.run_bind,run_underlying F,Result.andThen_ok,asInt,asIntOf,Sem.run_pure,typeInfo,run_program,hi,Vq]
 simp only[h1,decide_false,Bool.false_or,Int.lt_irrefl,gt_iff_lt,Bool.or_false]
 rw[if_neg (by simp;omega)]
 simp only[Sem.run_bind,askRoom,if_neg h4,Sem.run_pure,Result.andThen_ok,sizeOf,typeInfo,run_program,hi]
 by_cases D:m.toNat*i.size=0
 ·rw[if_pos D,D]
  have:Array.range 0= #[]:=rfl
  simp[newRow,this]
 ·rw[if_neg D]
  simp[newRow,zeroValue,typeInfo,hi,H]
section
variable{P:Program}{B:eS}{st:St}{a:Act}{w:World}{β:aO}{M:MSet}{o:Oper}{v:T}{ups:List Up}
theorem wV(h:ba B st w β M)(el:TypeId)(c:Array Value)(cs:List T)(bx:Bool)(sp:Sp)(k g:Nat)(H:st.gens sp k<g)
  (I:jQ sp bx β st.gens w M cs (c.toList.take cs.length)) (hs:cs.all single=true) (D:cs.length≤c.size):
  ba B (st.up (sp,k,⟨g,.cells cs 0 bx⟩)) (w.alloc (.cells c el)) (gI β sp k g ⟨w.heap.size,0,c.size⟩) (fun b x=>M b x∨b=w.heap.size)∧
  Tr st w β M (st.up (sp,k,⟨g,.cells cs 0 bx⟩)) (w.alloc (.cells c el)) (gI β sp k g ⟨w.heap.size,0,c.size⟩) (fun b x=>M b x∨b=w.heap.size):=by
 have J: ∀r k' F,F≤st.gens r k'→gI β sp k g ⟨w.heap.size,0,c.size⟩ r k' F=β r k' F:=by
  grind [uz]
 have K: ∀r k',st.gens r k'≤(st.up (sp,k,⟨g,.cells cs 0 bx⟩)).gens r k':=by
  intro r k'
  rw[eh]
  grind
 refine Vk h sp k g H (.cells c el) c.size (.cells cs 0 bx) ?_
 unfold dL
 simp only[bM]
 refine⟨c,el,(0,0),by rw[heap_alloc,if_pos rfl],by omega,D,rfl, ?_,fun j _ _=>Or.inr (by trivial),hs,Nat.zero_le _⟩
 simp only[List.drop_zero]
 exact jQ.mono (oG w M _) J K I
theorem EY{o':Obj}{sp:Sp}{k g:Nat}{ob:Ob}{ext:Nat}{cv:Value}{v:T}(hr:(execOp a.eval o).run P w= .ok (.value cv) (w.alloc o'))
  (r:ba B (st.up (sp,k,⟨g,ob⟩)) (w.alloc o') (gI β sp k g ⟨w.heap.size,0,ext⟩) (fun b x=>M b x∨b=w.heap.size)∧
    Tr st w β M (st.up (sp,k,⟨g,ob⟩)) (w.alloc o') (gI β sp k g ⟨w.heap.size,0,ext⟩) (fun b x=>M b x∨b=w.heap.size))
  (D:aq (gI β sp k g ⟨w.heap.size,0,ext⟩) (st.up (sp,k,⟨g,ob⟩)).gens (w.alloc o') (fun b x=>M b x∨b=w.heap.size) v cv):dV P B st a w β M o v [(sp,k,⟨g,ob⟩)]:=
 ⟨_,cv,_,_,_,hr,.inl rfl,r.1,r.2,by show _≤(w.heap.push o').size;simp,D⟩
theorem Tr.less{M':MSet}(hs: ∀b x,M' b x→M b x):Tr st w β M st w β M':=⟨di hs,fun _ _ _ _=>rfl,fun _ _=>Nat.le_refl _⟩
theorem dV.less{M':MSet}(hs: ∀b x,M' b x→M b x)(h:dV P B st a w β M' o v ups):dV P B st a w β M o v ups:=by
 obtain⟨nx,cv,w',r,M2,h1,h2,h3,h4,h5,h6⟩:=h
 exact⟨nx,cv,w',r,M2,h1,h2,h3,(Tr.less hs).trans h4 (Nat.le_refl _),h5,h6⟩
theorem uI{l:List Value}{n:Nat}(h:n=l.length):l.take n=l:=by subst h;simp
variable(dI:jS β st.gens w M st.rho a.eval)(h:ba B st w β M)
include h
theorem Vr{d:Nat}{sh:Bool}{t:TypeId}{z:T}(H:o.op= .alloc t)(I:nz P t=some z)(EX:noTup z=true)
  (D:(bz d st.rho (.alloc (cellsOf z) sh)).run st.get st.sh.length=some (.val v ups)):dV P B st a w β M o v ups:=by
 simp only[bz]at D
 obtain⟨sp,k,g,rfl,rfl,J,K⟩:=jx D
 obtain⟨N,O,U⟩:=DB I w
 obtain⟨F,V⟩:=uF (U w M) EX
 have r:=PList.length _ _ F
 refine EY (cv:= .pointer (some ⟨w.heap.size,0,none⟩)) ?_ (wV h t N.cells (cellsOf z) true sp k g J (by rw[uI r];exact jQ.ofP F) V (by rw[r];simp)) ?_
 ·simp[execOp,H,Instr.alloc,O,newVar,newRow]
 ·simp[aq,bM,eh]
include dI
theorem aj3{d:Nat}{sh:Bool}{t:TypeId}{x:Operand}{H:aP}(X:o.op= .box t x)(hx:eL x=some H)
  (r:(bz d st.rho (.box H sh)).run st.get st.sh.length=some (.val v ups)):dV P B st a w β M o v ups:=by
 have Y:=dI x H hx
 simp only[bz]at r
 split at r
 ·simp[Q.run]at r
 ·rename_i KC
  simp at KC
  have I: ∀(M':MSet) (D:T),ba B st w β M'→noTup D=true→ ∀sp k g,st.gens sp k<g→(match sp with| .L=>aq β st.gens w M' D (a.eval x)| .S=>oH true β st.gens w M' D (a.eval x))→dV P B st a w β M' o (.ptr sp k g 0) [(sp,k,⟨g,.cells (cellsOf D) 0 true⟩)]:=by
   intro M' D Z KC sp k g J ht
   have K:aq β st.gens w M' D (a.eval x):=by
    grind [oH.toV]
   obtain⟨U,c2⟩:=oK K KC
   have F:=av.length _ _ U
   refine EY (cv:= .pointer (some ⟨w.heap.size,0,none⟩)) ?_ (wV Z t (a.eval x).cells (cellsOf D) true sp k g J (by
    rw[uI F]
    cases sp
    ·exact U
    ·exact fun aW G' p q=>(oK (ht aW G' p q) KC).1) c2 (by rw[F];simp)) ?_
   ·simp[execOp,X,Instr.box,newVar,newRow]
   ·simp[aq,bM,eh]
  split at r
  ·simp only[Q.run_bind]at r
   cases N:(fz true aJ (st.rho H)).run st.get st.sh.length with
   |none=>simp[N]at r
   |some p=>
    obtain⟨D,us⟩:=p
    simp only[N,Option.bind_some]at r
    split at r
    ·rename_i V
     simp at V
     obtain⟨rfl,O⟩:=V
     obtain⟨sp,k,g,rfl,rfl,J,hgs⟩:=jx r
     obtain⟨M',q1,q2,q3,W,q5⟩:=xQ true st aJ (st.rho H) B st w β M _ D [] _ (Fz.refl st) h Y N
     exact dV.less q3 (I M' D q1 O sp k g J (by cases sp;exact W.toV;exact W))
    ·simp[Q.run]at r
  grind [jx]
omit dI in
theorem Vt{d:Nat}{sh:Bool}{t:TypeId}(D:o.op= .makeMap t none)(r:(bz d st.rho (.mkmap sh)).run st.get st.sh.length=some (.val v ups)):dV P B st a w β M o v ups:=by
 simp only[bz]at r
 obtain⟨sp,k,g,rfl,rfl,F,H⟩:=jx r
 refine EY (ext:=0) (cv:= .map (some w.heap.size)) (o':= .map #[] 0) ?_ (Vk h sp k g F (.map #[] 0) 0 (.map [] [] false) ?_) ?_
 ·simp[execOp,D,Instr.makeMap]
 ·unfold dL
  simp only[bM]
  exact⟨#[],0,by rw[heap_alloc,if_pos rfl],MapKept.stamped_empty 0,by simp[PList],by simp[PList],fun _ _=>Or.inr (by trivial)⟩
 ·simp[aq,bM,eh]
theorem aby{d:Nat}{sh:Bool}{t e:TypeId}{l c:Operand}{N:aP}{i:TypeInfo}{z:T}(ho:o.op= .makeSlice t l c)(ht:P.underlying t=some (.slice e))(hi:P.info? e=some i)(hz:nz P e=some z)(hl:eL l=some N)(O:ER l c=true)
  (EX:noTup z=true) (r:i.size=(cellsOf z).length) (h0:i.size≠0)
  (H:(bz d st.rho (.mksl (cellsOf z) i.bytes N sh)).run st.get st.sh.length=some (.val v ups)):dV P B st a w β M o v ups:=by
 have Z:=dI l N hl
 have ec:a.eval c=a.eval l:=by
  unfold ER at O
  grind
 simp only[bz]at H
 split at H
 ·rename_i n en
  obtain⟨k0,m,em,hm,rfl⟩:=iB en
  rw[em]at Z
  have el:=Z.int
  split at H
  ·rename_i fA
   simp at fA
   obtain⟨U,Ny⟩:=fA
   obtain⟨sp,k,g,rfl,rfl,hg,hgs⟩:=jx H
   obtain⟨i',D,V,z2,z3⟩:=uE hz
   rw[hi]at V;simp at V;subst V
   obtain⟨c1,c2⟩:=uF (w:=w) (M:=M) (lH z3) EX
   have I:=PList.length _ _ c1
   have W:D.cells.size=i.size:=by rw[r,I];simp
   have X:=AB D.cells m.toNat yv
   have Y:roomy=1099511627776:=rfl
   rw[Y]at U Ny
   have Vq:IntKind.i64.wrap m=m:=by
    simp[IntKind.wrap,IntKind.bits,IntKind.signed];omega
   have J:((Array.range (m.toNat*i.size)).map (fun j=>D.cells[j%D.cells.size]!)).size=m.toNat*i.size:=xv
   refine EY (cv:= .slice (some ⟨w.heap.size,0,none⟩) m.toNat m.toNat) ?_ (wV h e ((Array.range (m.toNat*i.size)).map (fun j=>D.cells[j%D.cells.size]!)) (repl (cellsOf z) m.toNat) (Sz (cellsOf z)) sp k g hg ?_ (AD c2 _) ?_) ?_
   ·have K:(i.bytes:Int)*m=((m.toNat*i.bytes:Nat):Int):=by rw[Int.natCast_mul,Int.toNat_of_nonneg hm,Int.mul_comm]
    have:=Cz (P:=P) (w:=w) (k:=k0) ht hi z2 hm Vq (by rw[K];omega) yv
    simp[execOp,ho,ec,el,this]
   ·have F:PList w M (repl (cellsOf z) m.toNat) (((Array.range (m.toNat*i.size)).map (fun j=>D.cells[j%D.cells.size]!)).toList.take (repl (cellsOf z) m.toNat).length):=by
     rw[uH,←r,←W,X]
     have:=PList.repl c1 m.toNat
     rw[uI]
     ·exact this
     ·rw[uH];simp
    cases hb:Sz (cellsOf z)with
    |false=>exact F
    |true=>
     cases sp with
     |L=>exact PList.toV β st.gens _ _ F
     |S=>exact fun aW G' _ _=>PList.toV aW G' _ _ F
   ·rw[J,uH,r];exact Nat.le_refl _
   ·simp only[aq,bM,eh]
    refine⟨by simp,m.toNat,rfl,Nat.le_refl _, ?_⟩
    rw[J,r];simp
  ·simp[Q.run]at H
 ·simp[Q.run]at H
end
end Go.Ev
namespace Go.Ev
open Go
theorem kV(st:St): ∀(us:List Up) (sp:Sp) (k:Nat),jv us sp k=false→(st.ups us).get sp k=st.get sp k:=by
 intro us
 induction us generalizing st with
 |nil=>intro sp k _;rfl
 |cons u us ih=>
  grind [jv,Bool.or_eq_false_iff,St.ups,e9]
theorem ahT(st:St)(u:Up):(st.up u).fr=st.fr:=by obtain⟨sp,k,e⟩:=u;cases sp <;> rfl
theorem EZ(st:St): ∀(us:List Up),(st.ups us).fr=st.fr:=by
 intro us
 induction us generalizing st with
 |nil=>rfl
 |cons u us ih=>grind [St.ups,ahT]
theorem xV: ∀{D:List (Nat×Operand)} {r:List (Nat×aP)},rv D=some r→D.length=r.length∧ ∀(j i:Nat) (x:Operand) (F:Nat) (y:aP),D[j]? =some (i,x)→r[j]? =some (F,y)→F=i∧eL x=some y
 | [],r,h=>by grind [rv]
 |(H,x0)::D,r,h=>by
  simp only[rv]at h
  split at h
  ·rename_i y I h2 h3
   simp at h;subst h
   obtain⟨a1,a2⟩:=xV h3
   grind
  ·cases h
theorem Ia{w:World}{M:MSet}{place:Nat→Option (Nat×Nat)}: ∀(parts:List (Nat×Value)) (F:List (Nat×List T)) (H:List T) (D:Array Value) (rs:List T),
  PList w M H D.toList→H.all single=true→parts.length=F.length→(∀(j i:Nat) (cv:Value) (off:Nat) (ts:List T),parts[j]? =some (i,cv)→F[j]? =some (off,ts)→place i=some (off,ts.length)∧PList w M ts cv.cells.toList∧ts.all single=true)→
  kG H F=some rs→ ∃rc,Instr.fill place D parts=some rc∧PList w M rs rc.toList∧rs.all single=true∧rs.length=H.length
 | [],F,H,D,rs,J,hs,r,K,I=>by
   grind [kG,Instr.fill]
 |(i,cv)::parts,F,H,D,rs,J,hs,r,K,I=>by
  cases F with
  |nil=>simp at r
  |cons p F=>
   obtain⟨off,ts⟩:=p
   simp only[kG]at I
   split at I
   ·rename_i O
    obtain⟨X,N,U⟩:=K 0 i cv off ts rfl rfl
    have Kz:=PList.length _ _ N
    have SD:=PList.length _ _ J
    have V:cv.cells.size=ts.length:=by rw[Kz];simp
    have W:D.size=H.length:=by rw[SD];simp
    have hc: ¬((cv.cells.size≠ts.length||off+cv.cells.size>D.size)=true):=by
     grind
    have e:(cv.cells.zipIdx.foldl (fun(cs:Array Value) (p:Value×Nat)=>cs.setIfInBounds (off+p.2) p.1) D).toList=splice D.toList off cv.cells.toList:=by
     have:=wU off cv.cells.toList 0 D
     grind [Array.toList_zipIdx]
    obtain⟨rc,Y,Z,r3,r4⟩:=Ia parts F (splice H off ts) (cv.cells.zipIdx.foldl (fun(cs:Array Value) (p:Value×Nat)=>cs.setIfInBounds (off+p.2) p.1) D) rs
     (by rw[e];exact PList.splice J N) (oL hs U) (by simpa using r) (fun j i cv off ts a b=>K (j+1) i cv off ts (by simpa using a) (by simpa using b)) I
    grind [cQ,Instr.fill]
   ·cases I
theorem AE{P:Program}{w:World}{t e:TypeId}{len n:Nat}{i:TypeInfo}{H:Value}{parts:Array (Nat×Value)}{rc:Array Value}(J:P.underlying t=some (.slice e))(hi:P.info? e=some i)(N:i.size=n)(O:i.zero=some H)(U:len*n≤16777216)
  (I:Instr.fill (fun j=>some (j*n,n)) ((Array.range (len*n)).map (fun j=>H.cells[j%H.cells.size]!)) parts.toList=some rc):
  (Instr.buildSlice t len parts).run P w= .ok (.slice (some ⟨w.heap.size,0,none⟩) len len) (w.alloc (.cells rc e)):=by
 have D: ¬(len*n>2 ^ 24):=yv
 have F:(sizeOf e).run P w= .ok n w:=by simp[sizeOf,typeInfo,hi,N]
 have r:(zeroValue e).run P w= .ok H w:=by simp[zeroValue,typeInfo,hi,O]
 unfold Instr.buildSlice
 by_cases kg:len*n=0
 ·have K: ∀f:Nat→Value,(Array.range (len*n)).map f= #[]:=by
   grind
  rw[K]at I
  simp only[Sem.run_bind,run_underlying J,Result.andThen_ok,F,if_neg D,if_pos kg,Sem.run_pure,K,I]
  simp[newRow]
 ·simp only[Sem.run_bind,run_underlying J,Result.andThen_ok,F,if_neg D,if_neg kg,Sem.run_pure,r,I]
  simp[newRow]
section
variable{P:Program}{B:eS}{st:St}{a:Act}{w:World}{β:aO}{M:MSet}{o:Oper}{v:T}{ups:List Up}
variable(dI:jS β st.gens w M st.rho a.eval)(h:ba B st w β M)
theorem Tr.fz{r:St}{M':MSet}(D:Fz st r)(hs: ∀b x,M' b x→M b x):Tr st w β M r w β M':=
 ⟨di hs,fun _ _ _ _=>rfl,fun sp k=>by rw[D.gens];exact Nat.le_refl _⟩
include dI h
theorem aj6{d nx:Nat}{t e:TypeId}{len:Nat}{I:Array (Nat×Operand)}{r:List (Nat×aP)}{z:T}{n:Nat}(ho:o.op= .buildSlice t len I)(ht:P.underlying t=some (.slice e))(hz:nz P e=some z)(O:eI P e=some n)(hr:rv I.toList=some r)
  (EX:noTup z=true) (F:n=(cellsOf z).length) (h0:n≠0) (U:len*n≤16777216)
  (D:(bz d st.rho (.bsl (cellsOf z) len r)).run st.get nx=some (.val v ups)):dV P B st a w β M o v ups:=by
 simp only[bz,Q.run_bind]at D
 cases V:(bh (Ev.fz false aJ) (r.map fun p=>st.rho p.2)).run st.get nx with
 |none=>simp[V]at D
 |some p=>
  obtain⟨ts,us⟩:=p
  simp only[V,Option.bind_some]at D
  split at D
  ·rename_i bo
   split at D
   ·rename_i cs hf
    simp[Q.run]at D;obtain⟨rfl,rfl⟩:=D
    obtain⟨g1,g2⟩:=xV hr
    have p9:av β st.gens w M (r.map fun p=>st.rho p.2) (I.toList.map fun p=>a.eval p.2):=by
     have gen: ∀(J:List (Nat×Operand)) (rs:List (Nat×aP)),J.length=rs.length→(∀(j i:Nat) (x:Operand) (N:Nat) (y:aP),J[j]? =some (i,x)→rs[j]? =some (N,y)→N=i∧eL x=some y)→av β st.gens w M (rs.map fun p=>st.rho p.2) (J.map fun p=>a.eval p.2):=by
      intro J
      induction J with
      |nil=>grind [av]
      |cons q J ih=>
       intro rs hl hg
       cases rs with
       |nil=>simp at hl
       |cons rr rs=>
        simp only[List.map_cons,av]
        exact⟨_,_,rfl,dI _ _ (hg 0 q.1 q.2 rr.1 rr.2 rfl rfl).2,ih rs (by simpa using hl) (fun j i x N y a b=>hg (j+1) i x N y (by simpa using a) (by simpa using b))⟩
     grind
    obtain⟨M',q1,q2,q3,q4,q5,q6⟩:=jE (fun t=>xQ false st aJ t) _ B st w β M _ ts us nx (Fz.refl st) h p9 V
    have W:PList w M' ts (I.toList.map fun p=>a.eval p.2):=q4
    obtain⟨i,X,z1,z2,z3⟩:=uE hz
    obtain⟨c1,c2⟩:=uF (w:=w) (M:=M') (lH z3) EX
    have Y:=PList.length _ _ c1
    have Z:i.size=n:=by unfold eI at O;rw[z1]at O;simpa using O
    have K:X.cells.size=n:=by rw[F,Y];simp
    have aj4:=AB X.cells len yv
    rw[K]at aj4
    have auU:PList w M' (repl (cellsOf z) len) ((Array.range (len*n)).map (fun j=>X.cells[j%n]!)).toList:=by
     grind [PList.repl]
    obtain⟨rc,r1,r2,r3,r4⟩:=Ia (place:=fun i=>some (i*n,n)) (I.toList.map fun p=>(p.1,a.eval p.2)) _ (repl (cellsOf z) len) _ cs auU (AD c2 len) (by simp[g1,q6]) (by
     intro j i cv off tt b1 b2
     rw[List.getElem?_map,Option.map_eq_some_iff]at b1
     obtain⟨⟨i1,x⟩,c3,c4⟩:=b1
     simp at c4;obtain⟨rfl,rfl⟩:=c4
     rw[List.getElem?_zip_eq_some]at b2
     obtain⟨b3,b4⟩:=b2
     rw[List.getElem?_map,Option.map_eq_some_iff]at b3 b4
     obtain⟨⟨i2,y⟩,d1,d2⟩:=b3
     obtain⟨tv,d3,d4⟩:=b4
     obtain⟨e1,e2⟩:=g2 j i1 x i2 y c3 d1
     subst e1
     simp at d2
     obtain⟨cv',f1,f2⟩:=W.get d3
     rw[List.getElem?_map,c3]at f1
     simp at f1;subst f1
     have H:=(List.all_eq_true.1 bo) _ (List.mem_of_getElem? d3)
     simp at H
     obtain⟨k1,k2⟩:=uF f2 H.2
     subst d4
     exact⟨by rw[H.1,←F,←d2,F],k1,k2⟩) hf
    obtain⟨p1,p2⟩:=ajL q1 (.cells rc e)
    refine⟨_,.slice (some ⟨w.heap.size,0,none⟩) len len,w.alloc (.cells rc e),β,M', ?_,.inl rfl,p1,(Tr.fz q2 q3).trans p2 (Nat.le_refl _),by show _≤(w.heap.push _).size;simp, ?_⟩
    ·have:=AE (P:=P) (w:=w) (t:=t) (e:=e) (len:=len) (n:=n) (parts:=I.map fun(i,x)=>(i,a.eval x)) (rc:=rc) ht z1 Z z2 U (by rw[K];simpa using r1)
     simp[execOp,ho,this]
    ·simp only[aq,PRel]
     refine⟨w.heap.size,0,len,none,rfl,Nat.le_refl _,fun _=>rfl,.inl rfl, ?_⟩
     have GY:=PList.length _ _ r2
     refine PCells.of (c:=rc) (el:=e) (fz:=(0,0)) (by rw[heap_alloc,if_pos rfl]) _ _ ?_ ?_ r3
     ·rw[List.drop_zero,uI GY];exact PList.mono p2.keep _ _ r2
     ·intro x _ _ hmx
      exact Nat.lt_irrefl _ (q1.mlt _ _ hmx)
   ·simp[Q.run]at D
  ·simp[Q.run]at D
end
end Go.Ev
namespace Go.Ev
open Go
theorem ku{w:World}{g:Nat}{r cs:Array Value}{t:TypeId}{fr:Nat×Nat}(D:w.heap[g]? =some (.cells r t fr)):w.setRow g cs=setBlock w g (.cells cs t fr):=by
 unfold World.setRow setBlock
 congr 1
 grind
theorem aq.one{β:aO}{G:Sp→Nat→Nat}{w:World}{M:MSet}{t:T}{cv:Value}(h:aq β G w M t cv)(hs:single t=true):cv.oneCell'=true:=by
 cases t <;> simp[single]at hs <;> simp only[aq,PRel]at h
 all_goals first
  |(subst h;rfl)
  |(obtain⟨_,rfl,_⟩:=h;rfl)
  |(obtain⟨_,_,rfl,_⟩:=h;rfl)
  |(obtain⟨_,_,_,rfl,_⟩:=h;rfl)
  |(obtain⟨_,_,_,_,rfl,_⟩:=h;rfl)
  |(obtain⟨_,rfl⟩:=h;rfl)
theorem av.one{β:aO}{G:Sp→Nat→Nat}{w:World}{M:MSet}: ∀{ts:List T} {r:List Value},av β G w M ts r→ts.all single=true→ ∀v∈r,v.oneCell'=true
 | [],r,h,_=>by grind [av]
 |t::ts,r,h,hs=>by
  simp only[av]at h
  obtain⟨u,us,rfl,h1,h2⟩:=h
  simp only[List.all_cons,Bool.and_eq_true]at hs
  intro v hv
  simp at hv
  rcases hv with rfl|hv
  ·exact h1.one hs.1
  ·exact av.one h2 hs.2 v hv
theorem abA(l r:List Value)(k:Nat)(hk:k+r.length≤l.length)(j:Nat):(l.take k++r++l.drop (k+r.length))[j]? =(splice l k r)[j]? :=by
 rw[eN]
 grind
theorem AF(l r:List Value)(k:Nat)(hk:k+r.length≤l.length):l.take k++r++l.drop (k+r.length)=splice l k r:=by
 apply List.ext_getElem?;intro j;exact abA l r k hk j
section
variable{P:Program}{B:eS}{st:St}{a:Act}{w:World}{β:aO}{M:MSet}{o:Oper}{v:T}{ups:List Up}
theorem uJ(h:ba B st w β M){sp:Sp}{k g F:Nat}{cs:List T}{bx:Bool}(V:st.get sp k=⟨g,.cells cs F bx⟩)(r:Nat)(W:g≤r){c:Array Value}{el:TypeId}
  (X:w.heap[(β sp k g).blk]? =some (.cells c el (0,0))) (off:Nat) (D:List Value) (KD:List T) (Ib:F≤off) (Ic:off+D.length≤(β sp k g).ext) (hle:F≤KD.length) (Y:KD.length≤(β sp k g).ext) (hs:KD.all single=true)
  (hl:jQ sp bx β st.gens w M KD ((splice (c.toList.drop (β sp k g).off) off D).take KD.length)):
  ba B (st.up (sp,k,⟨r,.cells KD F bx⟩)) (setBlock w (β sp k g).blk (.cells (splice c.toList ((β sp k g).off+off) D).toArray el)) (gI β sp k r (β sp k g)) M∧
  Tr st w β M (st.up (sp,k,⟨r,.cells KD F bx⟩)) (setBlock w (β sp k g).blk (.cells (splice c.toList ((β sp k g).off+off) D).toArray el)) (gI β sp k r (β sp k g)) M:=by
 have Z:st.gens sp k=g:=by show(st.get sp k).g=g;rw[V]
 have SE:live (st.get sp k):=by rw[V];trivial
 have ho:=h.obj sp k
 rw[V]at ho
 unfold dL at ho
 obtain⟨c0,el0,fz0,h1,h2,h3,h4,h5,h6,h7,h8⟩:=ho
 dsimp only at h1 h2 h3 h4 h6
 rw[X]at h1
 simp at h1
 obtain⟨rfl,rfl,rfl⟩:=h1
 have N:=mj X
 have hk:dA w M (setBlock w (β sp k g).blk (.cells (splice c.toList ((β sp k g).off+off) D).toArray el)) M:=by
  refine⟨fun b x u J K=> ?_,fun b es cl J K=> ?_,fun _ _ _ h=>h⟩
  ·by_cases O:b=(β sp k g).blk
   ·subst O
    unfold World.cell? at J ⊢
    rw[X]at J
    rw[dq,if_pos ⟨rfl,N⟩]
    simp at J ⊢
    rw[eN,if_neg]
    ·simpa using J
    ·rintro⟨q1,q2,q3⟩
     apply K
     have:=h6 (x-(β sp k g).off) yv yv
     rwa [show(β sp k g).off+(x-(β sp k g).off)=x by omega]at this
   ·rw[iO (w:=w) (by rw[dq,if_neg (fun e=>O e.1)])];exact J
  grind [dq]
 have Vu: ∀H k' I,I≤st.gens H k'→gI β sp k r (β sp k g) H k' I=β H k' I:=by
  grind [bM,uz]
 have hG: ∀H k',st.gens H k'≤(st.up (sp,k,⟨r,.cells KD F bx⟩)).gens H k':=by
  intro H k';rw[eh];split
  ·grind
  ·grind
 have U:=No (M':=M) h sp k r (.cells KD F bx) SE (by rw[Z];exact W) (.cells (splice c.toList ((β sp k g).off+off) D).toArray el) (fun _ _ K=>K) (fun _ _ _ K=>K) (by rw[Z];exact hk) (h.base SE)
 rw[Z]at U
 refine U ?_
 unfold dL
 simp only[bM]
 refine⟨_,el,(0,0),by rw[dq,if_pos ⟨rfl,N⟩],by simp[cQ];omega,Y,rfl, ?_,h6,hs,by omega⟩
 have auW:(splice c.toList ((β sp k g).off+off) D).drop (β sp k g).off=splice (c.toList.drop (β sp k g).off) off D:=by
  apply List.ext_getElem?
  grind [eN,List.length_drop]
 simp only[List.toList_toArray]at auW ⊢
 grind [jQ.mono]
variable(dI:jS β st.gens w M st.rho a.eval)(h:ba B st w β M)
include h
omit h in
theorem DD{M':MSet}{us:List Up}{t:TypeId}{n:Nat}{x y:Operand}{sp:Sp}{k g off J:Nat}{cs:List T}{bx:Bool}{ts:List T}(Z:o.op= .store t x y)(hn:eI P t=some n)(V:ba B (st.ups us) w β M')(K:Tr st w β M (st.ups us) w β M')
  (hx:a.eval x= .pointer (some ⟨(β sp k g).blk,(β sp k g).off+off,none⟩)) (W:(st.ups us).get sp k=⟨g,.cells cs J bx⟩) (Ib:J≤off) (hle:off+n≤cs.length) (X:ts.length=n) (hs:ts.all single=true)
  (F:jQ sp bx β (st.ups us).gens w M' ts (a.eval y).cells.toList):
  dV P B st a w β M o aQ (us++ [(sp,k,⟨g,.cells (splice cs off ts) J bx⟩)]):=by
 have N:=V.obj sp k
 rw[W]at N
 unfold dL at N
 obtain⟨c,el,fz,h1,h2,h3,h4,h5,h6,h7,h8⟩:=N
 dsimp only at h1 h2 h3 h4 h5 h6
 subst h4
 have D:av β (st.ups us).gens w M' ts (a.eval y).cells.toList:=F.toV
 have O:=av.length _ _ D
 have Vv:=av.one D hs
 have H:=run_storeCells_at P (β sp k g).blk ((β sp k g).off+off) el (a.eval y).cells.toList 0 c w h1 (by simp at O ⊢; omega) Vv
 rw[ku h1]at H
 simp only[Nat.add_zero]at H
 rw[AF _ _ _ (by simp at O ⊢; omega)]at H
 have r:=uJ V W g (Nat.le_refl _) h1 off (a.eval y).cells.toList (splice cs off ts) Ib yv (by rw[cQ];omega) (by rw[cQ];exact h3) (oL h7 hs) (by
  rw[cQ]
  have Vw:(splice (c.toList.drop (β sp k g).off) off (a.eval y).cells.toList).take cs.length=splice ((c.toList.drop (β sp k g).off).take cs.length) off (a.eval y).cells.toList:=by
   apply List.ext_getElem?
   intro j
   rw[List.getElem?_take,eN,eN,List.getElem?_take,List.length_take]
   by_cases I:j<cs.length
   ·rw[if_pos I,if_pos I]
    by_cases hc:off≤j∧j<off+(a.eval y).cells.toList.length∧j<(c.toList.drop (β sp k g).off).length
    ·rw[if_pos hc,if_pos yv]
    ·rw[if_neg hc,if_neg yv]
   ·rw[if_neg I,if_neg I,if_neg yv]
  rw[Vw]
  cases bx
  ·exact PList.splice h5 F
  ·cases sp
   ·exact av.splice h5 F
   ·exact fun Y G' p q=>av.splice (h5 Y G' p q) (F Y G' p q))
 rw[nG]at r
 refine⟨.skip,undef,setBlock w (β sp k g).blk (.cells (splice c.toList ((β sp k g).off+off) (a.eval y).cells.toList).toArray el),β,M', ?_,.inr ⟨rfl,rfl⟩, ?_, ?_,by rw[dS];exact Nat.le_refl _, ?_⟩
 ·have U:(a.eval y).cells.size=n:=by simp at O;omega
  simp[execOp,Z,hx,Instr.storeAt,Instr.sureAddr,storeVar,gh hn,U,H]
 ·rw[dF];exact r.1
 ·rw[dF];exact K.trans r.2 (Nat.le_refl _)
 ·simp[aq,aQ,undef,av]
include dI
theorem auX{d:Nat}{t:TypeId}{n:Nat}{x y:Operand}{K F:aP}(V:o.op= .store t x y)(hx:eL x=some K)(hy:eL y=some F)(W:eI P t=some n)
  (r:(bz d st.rho (.st K F n)).run st.get st.sh.length=some (.val v ups)):dV P B st a w β M o v ups:=by
 have J:=dI x K hx
 have X:=dI y F hy
 simp only[bz,nw]at r
 split at r
 ·simp[Q.run]at r
 ·rename_i hc
  simp at hc
  obtain⟨H,KC⟩:=hc
  split at r
  ·rename_i sp k g off ex
   rw[ex]at J
   simp only[aq]at J
   simp only[Q.run]at r
   split at r
   ·rename_i Y
    generalize Z:st.get sp k=e at*
    obtain⟨ge,ob⟩:=e
    dsimp only at Y;subst Y
    cases ob with
    |none=>simp[Q.run]at r
    |map _ _ _=>simp[Q.run]at r
    |cells cs wm bx=>
     dsimp only at r
     split at r
     ·rename_i Ib
      simp at Ib
      split at r
      ·rename_i La
       simp at La
       obtain⟨rfl,rfl⟩:=La
       simp[Q.run]at r;obtain⟨rfl,rfl⟩:=r
       obtain⟨k1,k2⟩:=oK X KC
       exact DD (us:= []) V W h (Tr.refl _ _ _ _) J.2 Z Ib.1 Ib.2 H k2 k1
      ·rename_i La
       simp only[Q.run_bind]at r
       cases N:(fz (bx&&sp== .S) aJ (st.rho F)).run st.get st.sh.length with
       |none=>simp[N]at r
       |some p=>
        obtain⟨t',us⟩:=p
        simp only[N,Option.bind_some]at r
        split at r
        ·simp[Q.run]at r
        ·rename_i hh
         simp at hh
         obtain⟨⟨O,D⟩,U⟩:=hh
         simp[Q.run]at r;obtain⟨rfl,rfl⟩:=r
         obtain⟨M',q1,q2,q3,I,q5⟩:=xQ _ st aJ (st.rho F) B st w β M _ t' us _ (Fz.refl st) h X N
         have Nz:(st.ups us).get sp k=⟨ge,.cells cs wm bx⟩:=by rw[kV st us sp k O];exact Z
         refine DD (us:=us) V W q1 (Tr.fz q2 q3) J.2 Nz Ib.1 Ib.2 U ?_ ?_
         ·exact(oK I.toV D).2
         ·cases bx with
          |false=>
           simp only[Bool.false_and]at I
           exact(uF I D).1
          |true=>
           cases sp with
           |L=>simp at La
           |S=>
            simp only[Bool.true_and,beq_self_eq_true]at I
            rw[q2.gens]
            exact fun aW G' p q=>(oK (I aW G' p q) D).1
     ·simp[Q.run]at r
   ·simp[Q.run]at r
  ·simp[Q.run]at r
end
end Go.Ev
namespace Go.Ev
open Go
section
variable{P:Program}{B:eS}{st:St}{a:Act}{w:World}{β:aO}{M:MSet}{o:Oper}{v:T}{ups:List Up}
variable(dI:jS β st.gens w M st.rho a.eval)(h:ba B st w β M)
theorem Lb{t U et:TypeId}{ek:EK}{m:Option Nat}{H:Array MapEntry}{F:Nat}{ks vs:List T}{k z r:T}{kv V:Value}{N:Bool}(ht:P.underlying t=some (.map U et))(hk:keyOf P U=some ek)
  (hm:(m=none∧H= #[])∨ ∃I,m=some I∧w.heap[I]? =some (.map H F)) (O:PList w M ks (H.toList.map (·.key))) (W:PList w M vs (H.toList.map (·.val))) (K:aq β st.gens w M k kv) (hz:(zeroValue et).run P w= .ok V w) (hzr:PRel w M z V)
  (J:iu ek ks vs k z N=some r): ∃cv,(Instr.lookup t (.map m) kv N).run P w= .ok cv w∧aq β st.gens w M r cv:=by
 unfold iu at J
 split at J
 ·cases J
 ·rename_i Nw
  simp at Nw
  have xS:(Instr.checkKey H.isEmpty 10000 U kv).run P w= .ok () w:=xT (P:=P) hk K Nw 9998 H.isEmpty
  have X: ∀D,(Instr.findKey U kv H.toList).run P w= .ok D w→(Instr.lookup t (.map m) kv N).run P w=
    .ok (match D with|some (_,cv)=>if N then .tuple #[cv,.bool true]else cv|none=>if N then .tuple #[V,.bool false]else V) w:=by
   intro D CA
   unfold Instr.lookup
   rcases hm with⟨rfl,rfl⟩|⟨I,rfl,hb⟩
   ·simp only[Sem.run_bind,run_underlying ht,Result.andThen_ok,Sem.run_pure,xS,CA]
    cases D with
    |none=>simp[hz]
    |some p=>simp
   ·have yz:(getObj I).run P w= .ok (.map H F) w:=by simp[getObj,Sem.run,hb]
    simp only[Sem.run_bind,run_underlying ht,Result.andThen_ok,Sem.run_pure,yz,xS,CA]
    cases D with
    |none=>simp[hz]
    |some p=>simp
  split at J
  ·rename_i i Y
   obtain⟨D,r1,Z⟩:=oJ (P:=P) hk K H.toList ks _ O Y
   obtain⟨e,e1,e2⟩:=Z
   simp only[Option.map_eq_some_iff]at J
   obtain⟨v',hv',rfl⟩:=J
   obtain⟨cv,c1,c2⟩:=W.get hv'
   grind [aq,av,PRel.toV]
  ·rename_i Y
   simp at J;subst J
   obtain⟨D,r1,Z⟩:=oJ (P:=P) hk K H.toList ks _ O Y
   refine⟨_,X D r1, ?_⟩
   have:D=none:=Z
   grind [aq,av,PRel.toV]
  ·cases J
include dI h
theorem auZ{d nx:Nat}{t Z et:TypeId}{m k:Operand}{X k':aP}{U:Bool}{V:EK}{z:T}(ho:o.op= .lookup t m k U)(hm:eL m=some X)(hk:eL k=some k')(ht:P.underlying t=some (.map Z et))(Y:keyOf P Z=some V)(hz:nz P et=some z)
  (F:(bz d st.rho (.lk V X k' z U)).run st.get nx=some (.val v ups)):dV P B st a w β M o v ups:=by
 have H:=dI m X hm
 have vk:=dI k k' hk
 obtain⟨zv,z1,z2⟩:=DB hz w
 have N: ∀(W:Option Nat) (I:Array MapEntry) (D:Nat) (ks J:List T) (r:T),a.eval m= .map W→((W=none∧I= #[])∨ ∃K,W=some K∧w.heap[K]? =some (.map I D))→PList w M ks (I.toList.map (·.key))→PList w M J (I.toList.map (·.val))→
   iu V ks J (st.rho k') z U=some r→dV P B st a w β M o r []:=by
  intro W I D ks J r e1 e2 e3 e4 e5
  obtain⟨cv,r1,r2⟩:=Lb (P:=P) (β:=β) (st:=st) ht Y e2 e3 e4 vk z1 (z2 w M) e5
  exact aR h (cv:=cv) (by simp[execOp,ho,e1,r1]) r2
 simp only[bz]at F
 split at F
 ·rename_i e
  rw[e]at H;simp only[aq]at H
  split at F
  ·rename_i Nw
   simp[Q.run]at F;obtain⟨rfl,rfl⟩:=F
   exact N none #[] 0 [] [] _ H (.inl ⟨rfl,rfl⟩) (by simp[PList]) (by simp[PList]) (by simp[iu,Nw,gq])
  ·simp[Q.run]at F
 ·rename_i ks J e
  rw[e]at H;simp only[aq,PRel]at H
  obtain⟨K,I,D,e1,e2,_,_,e3,e4⟩:=H
  cases O:iu V ks J (st.rho k') z U with
  |none=>simp[O,Ev.val,Q.run]at F
  |some r=>
   simp[O,Ev.val,Q.run]at F;obtain⟨rfl,rfl⟩:=F
   exact N _ I D ks J _ e1 (.inr ⟨K,rfl,e2⟩) e3 e4 O
 ·rename_i sp kk g e
  rw[e]at H;simp only[aq]at H
  simp only[Q.run]at F
  split at F
  ·rename_i hg
   have yw:=h.obj sp kk
   generalize he:st.get sp kk=en at*
   obtain⟨ge,ob⟩:=en
   dsimp only at hg;subst hg
   cases ob with
   |none=>simp[Q.run]at F
   |cells _ _ _=>simp[Q.run]at F
   |map ks J f=>
    dsimp only at F
    unfold dL at yw
    obtain⟨I,D,e2,_,e3,e4,_⟩:=yw
    cases O:iu V ks J (st.rho k') z U with
    |none=>simp[O,Ev.val,Q.run]at F
    |some r=>
     simp[O,Ev.val,Q.run]at F;obtain⟨rfl,rfl⟩:=F
     exact N _ I D ks J _ H.2 (.inr ⟨_,rfl,e2⟩) e3 e4 O
  ·simp[Q.run]at F
 ·simp[Q.run]at F
omit dI h
theorem PList.set{ts:List T}{r:List Value}(i:Nat){t:T}{cv:Value}(h:PList w M ts r)(D:PRel w M t cv):PList w M (ts.set i t) (r.set i cv):=by
 induction ts generalizing r i with
 |nil=>grind [PList]
 |cons x xs ih=>
  simp only[PList]at h
  obtain⟨u,us,rfl,h1,h2⟩:=h
  cases i with
  |zero=>grind [PList]
  |succ i=>grind [PList]
theorem sA{c:CK}{x y:T}{D F:Value}(hx:aq β st.gens w M x D)(r:aq β st.gens w M y F)(h:dU c x y=some true)(n:Nat):Instr.sameBits n F D=true:=by
 unfold dU at h
 split at h
 ·simp at h;subst h;rw[hx.bool,r.bool];simp[Instr.sameBits]
 ·split at h
  ·rename_i e;subst e;simp at h;subst h;rw[hx.int,r.int];simp[Instr.sameBits]
  ·cases h
 ·simp at h;subst h
  obtain⟨H,e1,I⟩:=hx.str
  obtain⟨J,e2,K⟩:=r.str
  rw[e1,e2]
  have:(J==H)=true:=by
   rw[beq_toListBytes,←fR,←bytesN_toList,←bytesN_toList,I,K];simp
  grind [Instr.sameBits]
 ·cases h
theorem ql: ∀{ks:List CK} {xs r:List T} {D F:List Value},av β st.gens w M xs D→av β st.gens w M r F→bV ks xs r=some true→ ∀n,D.length=F.length∧((F.zip D).all fun p=>Instr.sameBits n p.1 p.2)=true
 | [],xs,r,D,F,hx,H,h,n=>by
   cases xs <;> cases r <;> simp[bV]at h
   simp_all[av]
 |k::ks,xs,r,D,F,hx,H,h,n=>by
  cases xs with
  |nil=>grind [bV]
  |cons x xs=>
   cases r with
   |nil=>simp[bV]at h
   |cons y r=>
    simp only[av]at hx H
    obtain⟨u,us,rfl,h1,h2⟩:=hx
    obtain⟨O,J,rfl,K,I⟩:=H
    simp only[bV]at h
    cases hc:dU k x y with
    |none=>simp[hc]at h
    |some b=>
     cases b with
     |false=>simp[hc]at h
     |true=>
      simp only[hc]at h
      obtain⟨U,N⟩:=ql h2 I h n
      simp only[List.length_cons,List.zip_cons_cons,List.all_cons,Bool.and_eq_true]
      exact⟨by omega,sA h1 K hc n,N⟩
theorem E0{r:EK}{x y:T}{F H:Value}(I:(∃c,r= .one c)∨ ∃ks,r= .flat ks)(hx:aq β st.gens w M x F)(D:aq β st.gens w M y H)(h:pP r x y=some true)(n:Nat):Instr.sameBits (n+1) H F=true:=by
 rcases I with⟨c,rfl⟩|⟨ks,rfl⟩
 ·exact sA hx D h _
 ·unfold pP at h
  split at h <;> simp_all
  rename_i xs N
  simp only[aq]at hx D
  obtain⟨O,rfl,J,_⟩:=hx
  obtain⟨U,rfl,K,_⟩:=D
  obtain⟨V,W⟩:=ql J K h n
  simp_all[Instr.sameBits,Bool.and_eq_true]
theorem Ie{D:EK}{k:T}: ∀{ks:List T} {i:Nat},gq D k ks=some (some i)→ ∃x,ks[i]? =some x∧pP D k x=some true
 | [],i,h=>by simp[gq]at h
 |x::xs,i,h=>by
  simp only[gq]at h
  split at h
  ·grind
  ·simp only[Option.map_eq_some_iff]at h
   obtain⟨r,h1,h2⟩:=h
   cases r with
   |none=>simp at h2
   |some j=>
    simp at h2;subst h2
    simp_all[Ie]
  ·cases h
theorem xX{c:CK}{x y:T}{H I:Value}(hx:aq β st.gens w M x H)(r:aq β st.gens w M y I)(h:dU c x y=some true):H=I:=by
 unfold dU at h
 split at h
 ·simp at h;subst h;rw[hx.bool,r.bool]
 ·split at h
  ·rename_i e;subst e;simp at h;subst h;rw[hx.int,r.int]
  ·cases h
 ·simp at h;subst h
  obtain⟨D,e1,J⟩:=hx.str
  obtain⟨F,e2,K⟩:=r.str
  rw[e1,e2]
  have h3:bytesN D=bytesN F:=J.trans K.symm
  have h4:D.data.toList=F.data.toList:=(List.map_inj_right (f:=UInt8.toNat) (fun _ _ h=>UInt8.toNat_inj.1 h)).1 h3
  have h5:D=F:=ByteArray.ext (Array.toList_inj.1 h4)
  rw[h5]
 ·cases h
theorem uK: ∀{ks:List CK} {xs r:List T} {D F:List Value},av β st.gens w M xs D→av β st.gens w M r F→bV ks xs r=some true→D=F
 | [],xs,r,D,F,hx,H,h=>by
   grind [bV,av]
 |k::ks,xs,r,D,F,hx,H,h=>by
  cases xs with
  |nil=>grind [bV]
  |cons x xs=>
   cases r with
   |nil=>simp[bV]at h
   |cons y r=>
    simp only[av]at hx H
    obtain⟨u,us,rfl,h1,h2⟩:=hx
    obtain⟨N,J,rfl,K,I⟩:=H
    simp only[bV]at h
    cases hc:dU k x y with
    |none=>simp[hc]at h
    |some b=>
     cases b with
     |false=>simp[hc]at h
     |true=>
      simp only[hc]at h
      rw[xX h1 K hc,uK h2 I h]
theorem Vx{r:EK}{x y:T}{F H:Value}(I:(∃c,r= .one c)∨ ∃ks,r= .flat ks)(hx:aq β st.gens w M x F)(D:aq β st.gens w M y H)(h:pP r x y=some true):F=H:=by
 rcases I with⟨c,rfl⟩|⟨ks,rfl⟩
 ·exact xX hx D h
 ·unfold pP at h
  split at h <;> simp_all
  rename_i xs N
  simp only[aq]at hx D
  obtain⟨O,rfl,J,_⟩:=hx
  obtain⟨U,rfl,K,_⟩:=D
  have:=uK J K h
  simp_all
theorem uL{c:CK}{x y:T}{v:Value}(hx:aq β st.gens w M x v)(r:aq β st.gens w M y v)(h:dU c x y=some false):False:=by
 unfold dU at h
 split at h
 ·have e:=hx.bool;rw[r.bool]at e;cases e;simp at h
 ·split at h
  ·rename_i e;subst e
   have e:=hx.int;rw[r.int]at e;cases e;simp at h
  ·cases h
 ·obtain⟨D,e1,F⟩:=hx.str
  obtain⟨H,e2,I⟩:=r.str
  grind
 ·cases h
theorem sC: ∀{ks:List CK} {xs r:List T} {v:List Value},av β st.gens w M xs v→av β st.gens w M r v→bV ks xs r=some false→False
 | [],xs,r,v,hx,D,h=>by
   grind [bV]
 |k::ks,xs,r,v,hx,D,h=>by
  cases xs with
  |nil=>grind [bV]
  |cons x xs=>
   cases r with
   |nil=>simp[bV]at h
   |cons y r=>
    simp only[av]at hx D
    obtain⟨u,us,rfl,h1,h2⟩:=hx
    obtain⟨J,H,e,I,F⟩:=D
    cases e
    simp only[bV]at h
    cases hc:dU k x y with
    |none=>simp[hc]at h
    |some b=>
     cases b with
     |false=>exact uL h1 I hc
     |true=>
      simp only[hc]at h
      exact sC h2 F h
theorem Qn{r:EK}{x y:T}{v:Value}(F:(∃c,r= .one c)∨ ∃ks,r= .flat ks)(hx:aq β st.gens w M x v)(D:aq β st.gens w M y v)(h:pP r x y=some false):False:=by
 rcases F with⟨c,rfl⟩|⟨ks,rfl⟩
 ·exact uL hx D h
 ·unfold pP at h
  split at h <;> simp_all
  rename_i xs J
  simp only[aq]at hx D
  obtain⟨K,rfl,H,_⟩:=hx
  obtain⟨N,e,I,_⟩:=D
  cases e
  exact sC H I h
theorem AG{D:EK}{k:T}: ∀{ks:List T},gq D k ks=some none→ ∀x∈ks,pP D k x=some false
 | [],h,x,hx=>by simp at hx
 |y::H,h,x,hx=>by
  simp only[gq]at h
  split at h
  ·simp at h
  ·rename_i F
   simp only[Option.map_eq_some_iff]at h
   obtain⟨r,h1,h2⟩:=h
   cases r with
   |some j=>simp at h2
   |none=>
    rcases List.mem_cons.1 hx with rfl|hx
    ·exact F
    ·exact AG h1 x hx
  ·cases h
theorem PList.getV{w:World}{M:MSet}: ∀{ts:List T} {r:List Value},PList w M ts r→ ∀{j:Nat} {v:Value},r[j]? =some v→ ∃t,ts[j]? =some t∧PRel w M t v
 | [],r,h,j,v,D=>by grind [PList]
 |x::xs,r,h,j,v,D=>by
  simp only[PList]at h
  obtain⟨u,us,rfl,h1,h2⟩:=h
  cases j with
  |zero=>grind
  |succ j=>obtain⟨t,e1,e2⟩:=PList.getV h2 (j:=j) (v:=v) (by simpa using D);exact⟨t,by simpa using e1,e2⟩
theorem ahW(h:ba B st w β M){sp:Sp}{k g:Nat}{ks Z:List T}(N:st.get sp k=⟨g,.map ks Z false⟩)(If:Array MapEntry)(F:Nat)(O:MapKept.Stamped If F)(r K:List T)(hk:PList w M r (If.toList.map (·.key)))(hv:PList w M K (If.toList.map (·.val))):
  ba B (st.up (sp,k,⟨g,.map r K false⟩)) (setBlock w (β sp k g).blk (.map If F)) β M∧Tr st w β M (st.up (sp,k,⟨g,.map r K false⟩)) (setBlock w (β sp k g).blk (.map If F)) β M:=by
 have U:st.gens sp k=g:=by show(st.get sp k).g=g;rw[N]
 have SE:live (st.get sp k):=by rw[N];trivial
 have V:=h.obj sp k
 rw[N]at V
 unfold dL at V
 obtain⟨es,W,h1,_,h2,h3,h4⟩:=V
 dsimp only at h1 h4
 have X:=mj h1
 have D:dA w M (setBlock w (β sp k g).blk (.map If F)) M:=by
  refine⟨fun b x u Y H=> ?_,fun b es cl Y H=> ?_,fun _ _ _ h=>h⟩
  ·by_cases I:b=(β sp k g).blk
   ·grind
   ·rw[iO (w:=w) (by rw[dq,if_neg (fun e=>I e.1)])];exact Y
  ·by_cases I:b=(β sp k g).blk
   ·simp_all
   ·grind [dq]
 have J:=No (M':=M) h sp k g (.map r K false) SE (Nat.le_of_eq U) (.map If F) (fun _ _ H=>H) (fun _ _ _ H=>H) (by rw[U];exact D) (h.base SE)
 rw[U,nG]at J
 refine J ?_
 exact⟨If,F,by rw[dq,if_pos ⟨rfl,X⟩],O,PList.mono D _ _ hk,PList.mono D _ _ hv,h4⟩
include dI h
theorem au0{d:Nat}{t kt et:TypeId}{m k x:Operand}{m' k' x':aP}{ek:EK}(ho:o.op= .mapUpdate t m k x)(hm:eL m=some m')(hk:eL k=some k')(hx:eL x=some x')(ht:P.underlying t=some (.map kt et))(K:keyOf P kt=some ek)
  (D:(bz d st.rho (.mu ek m' k' x')).run st.get st.sh.length=some (.val v ups)):dV P B st a w β M o v ups:=by
 have vm:=dI m m' hm
 have vk:=dI k k' hk
 have vx:=dI x x' hx
 simp only[bz]at D
 split at D
 ·rename_i sp kk g e
  rw[e]at vm;simp only[aq]at vm
  simp only[Q.run]at D
  split at D
  ·rename_i hg
   simp at hg
   obtain⟨hg,Nw⟩:=hg
   generalize he:st.get sp kk=en at*
   obtain⟨J,ob⟩:=en
   dsimp only at hg;subst hg
   split at D
   ·rename_i ks U heq
    dsimp only at heq;subst heq
    simp only[Q.run_bind]at D
    cases hz:(fz false aJ (st.rho x')).run st.get st.sh.length with
    |none=>simp[hz]at D
    |some p=>
     obtain⟨t',us⟩:=p
     simp only[hz,Option.bind_some]at D
     split at D
     ·rename_i q W
      split at D
      ·simp[Q.run]at D
      ·rename_i hh
       simp at hh
       simp[Q.run]at D;obtain⟨rfl,rfl⟩:=D
       obtain⟨M',q1,q2,q3,q4,q5⟩:=xQ _ st aJ (st.rho x') B st w β M _ t' us _ (Fz.refl st) h vx hz
       have q4':PRel w M' t' (a.eval x):=q4
       have Nz:(st.ups us).get sp kk=⟨J,.map ks U false⟩:=by rw[kV st us sp kk hh];exact he
       have yw:=q1.obj sp kk
       rw[Nz]at yw
       unfold dL at yw
       obtain⟨H,clock,e2,fG,e3,e4,_⟩:=yw
       dsimp only at e2
       have r:aq β st.gens w M' (st.rho k') (a.eval k):=aq.mono (di q3) (fun _ _ _ _=>rfl) (fun _ _=>Nat.le_refl _) _ _ vk
       have xS:(Instr.checkKey false 10000 kt (a.eval k)).run P w= .ok () w:=xT (P:=P) K r Nw 9998 false
       obtain⟨_,mn⟩:=EW K
       have kp:PRel w M' (st.rho k') (a.eval k):=by
        generalize st.rho k'=tk at*
        cases tk <;> rcases mn with⟨c,rfl⟩|⟨cs,rfl⟩ <;> (try (cases c)) <;> simp[isKey,EP]at Nw
        all_goals first
         |(simp only[aq]at r;simp only[PRel];exact r;done)
         |skip
        rename_i xs
        simp only[aq]at r
        obtain⟨arr,e5,l5,s5⟩:=r
        simp only[PRel]
        refine⟨arr,e5, ?_,s5⟩
        have: ∀(cs:List CK) (xs:List T) (U:List Value),kS cs xs=true→av β st.gens w M' xs U→PList w M' xs U:=by
         intro cs
         induction cs with
         |nil=>intro xs U hc hv;cases xs <;> simp[kS]at hc;simpa only[av,PList]using hv
         |cons c cs ih=>
          intro xs U hc hv
          cases xs with
          |nil=>simp[kS]at hc
          |cons x xs=>
           simp only[kS,Bool.and_eq_true]at hc
           simp only[av]at hv;simp only[PList]
           obtain⟨u,us,rfl,w1,w2⟩:=hv
           refine⟨u,us,rfl, ?_,ih xs us hc.2 w2⟩
           cases c <;> cases x <;> simp[EP]at hc <;> simp only[aq]at w1 <;> simp only[PRel] <;> exact w1
        exact this _ _ _ Nw l5
       have run: ∀(F:Option (Nat×Value)) (If:Array MapEntry) (lL:Nat),(Instr.findKey kt (a.eval k) H.toList).run P w= .ok F w→
         (match F with
           |some (i,_)=>do
            let key ←Instr.keyThatStays (((H[i]?).map (fun e:MapEntry=>e.key)).getD (a.eval k)) (a.eval k)
            setObj (β sp kk J).blk (.map (H.modify i fun e=>{e with key,val:=a.eval x}) clock)
           |none=>setObj (β sp kk J).blk (.map (H.push {key:=a.eval k,val:=a.eval x,born:=clock}) (clock+1))).run P w= .ok () (setBlock w (β sp kk J).blk (.map If lL))→
         (execOp a.eval o).run P w= .ok .skip (setBlock w (β sp kk J).blk (.map If lL)):=by
        intro F If lL CA Ig
        have:(Instr.mapUpdate t (.map (some (β sp kk J).blk)) (a.eval k) (a.eval x)).run P w= .ok () (setBlock w (β sp kk J).blk (.map If lL)):=by
         unfold Instr.mapUpdate
         simp only[Sem.run_bind,run_underlying ht,Result.andThen_ok]
         have yz:(getObj (β sp kk J).blk).run P w= .ok (.map H clock) w:=by simp[getObj,Sem.run,e2]
         simp only[yz,Result.andThen_ok,Sem.run_bind,xS,CA]
         cases F with
         |none=>exact Ig
         |some p=>exact Ig
        simp[execOp,ho,vm.2,this]
       have Ig: ∀(If:Array MapEntry) (c':Nat),(setObj (β sp kk J).blk (.map If c')).run P w= .ok () (setBlock w (β sp kk J).blk (.map If c')):=by
        intro If c';simp[setObj,Sem.run,e2,setBlock]
       unfold lF at W
       split at W
       ·rename_i i hf
        simp at W;subst W
        obtain⟨F,r1,e,V,r3⟩:=oJ (P:=P) K r H.toList ks _ e3 hf
        obtain⟨kx,X,I⟩:=Ie hf
        obtain⟨kcv,N,kc2⟩:=e3.get X
        rw[List.getElem?_map,V]at N
        simp at N
        have hsb:=E0 (β:=β) (st:=st) mn r (PRel.toV β st.gens _ _ kc2) I 9999
        have hei:H[i]? =some e:=by simpa using V
        simp only[Nat.zero_add]at r3
        have hkt:(Instr.keyThatStays (((H[i]?).map (fun e:MapEntry=>e.key)).getD (a.eval k)) (a.eval k)).run P w= .ok (a.eval k) w:=by
         rw[hei];simp only[Option.map_some,Option.getD_some,N]
         unfold Instr.keyThatStays
         rw[if_pos hsb];rfl
        obtain⟨Y,Z⟩:=ahW q1 Nz (H.modify i fun e=>{e with key:=a.eval k,val:=a.eval x}) clock (MapKept.stamped_modify fG i _ (fun _ _=>rfl) (fun e' _ O=>by
         have hh:e'=e:=by rw[hei]at O;exact(Option.some.inj O).symm
         subst hh
         exact(Vx mn r (PRel.toV β st.gens _ _ kc2) I).trans N.symm)) (ks.set i (st.rho k')) (U.set i t') (by
         have:=PList.set i e3 kp
         have e5:(H.modify i fun e=>{e with key:=a.eval k,val:=a.eval x}).toList.map (·.key)=(H.toList.map (·.key)).set i (a.eval k):=by
          apply List.ext_getElem?;intro j
          rw[Array.toList_modify,List.getElem?_map,List.getElem?_modify,List.getElem?_set,List.getElem?_map]
          by_cases hj:i=j
          ·subst hj;rw[V];simp;exact(List.getElem?_eq_some_iff.1 V).1
          ·simp[hj]
         rw[e5];exact this) (by
         have:=PList.set i e4 q4'
         have e5:(H.modify i fun e=>{e with key:=a.eval k,val:=a.eval x}).toList.map (·.val)=(H.toList.map (·.val)).set i (a.eval x):=by
          apply List.ext_getElem?;intro j
          rw[Array.toList_modify,List.getElem?_map,List.getElem?_modify,List.getElem?_set,List.getElem?_map]
          by_cases hj:i=j
          ·subst hj;rw[V];simp;exact(List.getElem?_eq_some_iff.1 V).1
          ·simp[hj]
         rw[e5];exact this)
        refine⟨.skip,undef,_,β,M',run F _ clock r1 ?_,.inr ⟨rfl,rfl⟩,by rw[dF];exact Y,by rw[dF];exact(Tr.fz q2 q3).trans Z (Nat.le_refl _),by rw[dS];exact Nat.le_refl _,by simp[aq,aQ,undef,av]⟩
        subst r3
        simp only[Sem.run_bind,hkt,Result.andThen_ok]
        exact Ig _ _
       ·rename_i hf
        simp at W;subst W
        obtain⟨F,r1,V⟩:=oJ (P:=P) K r H.toList ks _ e3 hf
        have:F=none:=V
        subst this
        obtain⟨Y,Z⟩:=ahW q1 Nz (H.push {key:=a.eval k,val:=a.eval x,born:=clock}) (clock+1) (MapKept.stamped_push fG (fun y hy O=>by
         obtain⟨j,hj⟩:=List.getElem?_of_mem hy
         obtain⟨kx,X,I⟩:=e3.getV (j:=j) (v:=y.key) (by rw[List.getElem?_map,hj];rfl)
         rw[O]at I
         exact Qn mn r (PRel.toV β st.gens _ _ I) (AG hf _ (List.mem_of_getElem? X)))) (ks++ [st.rho k']) (U++ [t']) (by
         simp only[Array.toList_push,List.map_append,List.map_cons,List.map_nil]
         exact PList.append e3 (by simp only[PList];exact⟨_,_,rfl,kp,rfl⟩)) (by
         simp only[Array.toList_push,List.map_append,List.map_cons,List.map_nil]
         exact PList.append e4 (by simp only[PList];exact⟨_,_,rfl,q4',rfl⟩))
        exact⟨.skip,undef,_,β,M',run none _ (clock+1) r1 (Ig _ _),.inr ⟨rfl,rfl⟩,by rw[dF];exact Y,by rw[dF];exact(Tr.fz q2 q3).trans Z (Nat.le_refl _),by rw[dS];exact Nat.le_refl _,by simp[aq,aQ,undef,av]⟩
       ·cases W
     ·simp[Q.run]at D
   ·simp[Q.run]at D
  ·simp[Q.run]at D
 ·simp[Q.run]at D
end
end Go.Ev
namespace Go.Ev
open Go
theorem DE(D:Nat): ∀(r c:Nat),c≤D+(D+768)/4→Builtin.growBy D r c≤D+(D+768)/4
 |0,c,h=>by simpa[Builtin.growBy]using h
 |r+1,c,h=>by
  simp only[Builtin.growBy]
  split
  ·exact h
  ·exact DE D r _ yv
theorem abC(E1 r:Nat)(h:r<E1):Builtin.nextslicecap E1 r≤2*E1+192:=by
 grind [Builtin.nextslicecap,DE]
theorem Qo{E1 r bytes:Nat}(h:r<E1)(D:E1*bytes≤1099511627776)(h0:bytes≠0):Builtin.nextslicecap E1 r*bytes≤281474976710656:=by
 have h1:=Nat.mul_le_mul_right bytes (abC E1 r h)
 have h2:bytes≤E1*bytes:=Nat.le_mul_of_pos_left bytes yv
 grind
section
variable{P:Program}{B:eS}{st:St}{a:Act}{w:World}{β:aO}{M:MSet}{o:Oper}{v:T}{ups:List Up}
theorem CB(h:ba B st w β M){sz nx n:Nat}{x:T}{cx:Value}{xs:List T}(K:aq β st.gens w M x cx)(r:(cm sz x).run st.get nx=some (n,xs)):
  ∃news:List Value,(∀w':World,w'.heap=w.heap→(Builtin.lenOf cx).run P w'= .ok n w'∧(Builtin.firstCells sz n cx).run P w'= .ok news.toArray w')∧PList w M xs news∧xs.all single=true∧xs.length=n*sz:=by
 unfold cm at r
 split at r
 ·simp[Q.run]at r;obtain⟨rfl,rfl⟩:=r
  simp_all[aq,Builtin.lenOf,Builtin.firstCells,PList]
 ·rename_i cs len ex
  split at r
  ·rename_i O
   simp[Q.run]at r;obtain⟨rfl,rfl⟩:=r
   simp only[aq,PRel]at K
   obtain⟨U,off,V,sp,rfl,h1,h2,h5,h3⟩:=K
   obtain⟨W,e1,e2,e3,e4⟩:=PCells.load (P:=P) h3
   refine⟨W,fun w' Y=>⟨by simp[Builtin.lenOf], ?_⟩,e3,e4,O⟩
   have:=run_loadCells_list (P:=P) w' ⟨U,off,sp⟩ W (fun j u F=>by
    rcases h5 with h5|h5
    ·grind [World.cell?,dM]
    ·exfalso
     have hz:len=0:=yv
     have h0:W= []:=List.length_eq_zero_iff.1 (by rw[e1,O,hz,Nat.zero_mul])
     subst h0;simp at F)
   rw[e1,O]at this
   simp[Builtin.firstCells,this]
  ·simp[Q.run]at r
 ·rename_i sp k g off len H
  split at r
  ·rename_i I
   subst I
   simp only[Q.run]at r
   split at r
   ·rename_i Z
    have yw:=h.obj sp k
    generalize he:st.get sp k=en at*
    obtain⟨N,ob⟩:=en
    dsimp only at Z;subst Z
    cases ob with
    |none=>simp[Q.run]at r
    |map _ _ _=>simp[Q.run]at r
    |cells cs wm bx=>
     cases bx with
     |true=>simp[Q.run]at r
     |false=>
      dsimp only at r
      split at r
      ·rename_i hle
       simp[Q.run]at r;obtain⟨rfl,rfl⟩:=r
       unfold dL at yw
       obtain⟨c,el,fz,h1,h2,h3,h4,h5,h6,h7,h8⟩:=yw
       dsimp only at h1 h2 h3 h5
       simp only[aq]at K
       obtain⟨q1,V,rfl,q2,q3⟩:=K
       have Qm:=PList.take (len*H) (PList.drop off h5)
       rw[List.drop_take,List.drop_drop,List.take_take]at Qm
       have X:min (len*H) (cs.length-off)=len*H:=yv
       rw[X]at Qm
       have D:((cs.drop off).take (len*H)).length=len*H:=by simp;omega
       refine⟨(c.toList.drop ((β sp k N).off+off)).take (len*H),fun w' Y=>⟨by simp[Builtin.lenOf], ?_⟩,Qm,gJ h7 _ _,D⟩
       have yV:=PList.length _ _ Qm
       rw[D]at yV
       have:=run_loadCells_list (P:=P) w' ⟨(β sp k N).blk,(β sp k N).off+off,none⟩ ((c.toList.drop ((β sp k N).off+off)).take (len*H)) (fun j u F=>by
        rw[dM]
        rw[List.getElem?_take]at F
        split at F
        ·rw[List.getElem?_drop]at F
         unfold World.cell?;rw[Y,h1];simpa using F
        ·cases F)
       rw[←yV]at this
       simp[Builtin.firstCells,this]
      ·simp[Q.run]at r
   ·simp[Q.run]at r
  ·simp[Q.run]at r
 ·rename_i l
  split at r
  ·rename_i I
   subst I
   simp[Q.run]at r;obtain⟨rfl,rfl⟩:=r
   obtain⟨J,rfl,rfl⟩:=K.str
   refine⟨J.data.toList.map fun b=> .int .u8 b.toNat,fun w' _=>⟨by simp[Builtin.lenOf,fF], ?_⟩, ?_, ?_,by simp⟩
   ·have e1:(J.extract 0 J.size).data=J.data:=by
     apply Array.ext'
     rw[ByteArray.data_extract,Array.toList_extract,List.extract_eq_take_drop]
     rw[List.drop_zero]
     exact List.take_of_length_le (by show J.data.toList.length≤J.data.size-0;simp)
    simp only[Builtin.firstCells,fF,e1,Sem.run_pure]
    congr 1
    apply Array.ext';simp
   ·unfold bytesN
    rw[List.map_map]
    generalize J.data.toList=l
    induction l with
    |nil=>simp[PList]
    |cons b l ih=>simp only[List.map_cons,PList];exact⟨_,_,rfl,by simp[PRel],ih⟩
   ·rw[List.all_eq_true];intro x hx;simp at hx;obtain⟨_,_,rfl⟩:=hx;rfl
  ·simp[Q.run]at r
 ·simp[Q.run]at r
theorem Ih{t u ty e:TypeId}{D:TypeDesc}{i:TypeInfo}{z:Value}(K:P.underlying t=some (.slice e))(N:P.underlying u=some D)(F:D= .string∨ ∃J,D= .slice J)(hi:P.info? e=some i)(O:i.zero=some z)
  {base:Option Addr} {dQ gG n:Nat} {cx:Value} {uM news:List Value} (U:(Builtin.lenOf cx).run P w= .ok n w) (DF:(Builtin.firstCells i.size n cx).run P w.drew= .ok news.toArray w.drew) (r:(Builtin.firstCells i.size dQ (.slice base dQ gG)).run P w.drew= .ok uM.toArray w.drew)
  (V:gG<dQ+n) (W:(dQ+n)*i.bytes≤1099511627776) (h0:i.bytes≠0):
  (Builtin.append_ #[t,u] ty #[.slice base dQ gG,cx]).run P w= .ok (.slice (some ⟨w.heap.size,0,none⟩) (dQ+n) (grownCap w (dQ+n) gG e))
     (w.drew.alloc (.cells (uM.toArray++news.toArray++Builtin.zeroCells z.cells (grownCap w (dQ+n) gG e-(dQ+n))) e)):=by
 have H: ¬(dQ+n≤gG):=yv
 have X:dQ+n≤(dQ+n)*i.bytes:=Nat.le_mul_of_pos_right _ yv
 have AH: ¬(9223372036854775807<((dQ:Int)+(n:Int))):=yv
 have I: ¬(281474976710656<Builtin.nextslicecap (dQ+n) gG*i.bytes):=by have:=Qo V W h0;omega
 rcases F with rfl|⟨J,rfl⟩ <;>
 ·simp[Builtin.append_,run_underlying K,run_underlying N,sizeOf,typeInfo,zeroValue,hi,O,U,H,AH,I,Question.forced,DF,r,newRow,grownCap]
  grind
theorem qm{t u ty e:TypeId}{D:TypeDesc}{i:TypeInfo}(H:P.underlying t=some (.slice e))(I:P.underlying u=some D)(F:D= .string∨ ∃J,D= .slice J)(hi:P.info? e=some i)
  {base:Option Addr} {dQ gG n:Nat} {cx:Value} {news:List Value} {w':World} (K:(Builtin.lenOf cx).run P w= .ok n w) (DF:(Builtin.firstCells i.size n cx).run P w= .ok news.toArray w)
  (N:dQ+n≤gG) (r:match base with|some O=>(storeCells (O.add (dQ*i.size)) news).run P w= .ok () w'|none=>w'=w):
  (Builtin.append_ #[t,u] ty #[.slice base dQ gG,cx]).run P w= .ok (.slice base (dQ+n) gG) w':=by
 rcases F with rfl|⟨J,rfl⟩ <;>
 ·cases base with
  |none=>
   dsimp only at r;subst r
   simp[Builtin.append_,run_underlying H,run_underlying I,sizeOf,typeInfo,hi,K,N,DF]
  |some O=>
   dsimp only at r
   simp[Builtin.append_,run_underlying H,run_underlying I,sizeOf,typeInfo,hi,K,N,DF,r]
theorem abD{bx:Bool}(h:ba B st w β M)(el:TypeId)(c:Array Value)(cs:List T)(r:Nat)(sp:Sp)(k g:Nat)(F:st.gens sp k<g)
  (H:PList w M cs (c.toList.take cs.length)) (hs:cs.all single=true) (D:cs.length≤c.size) (Ib:r≤cs.length):
  ba B (st.up (sp,k,⟨g,.cells cs r bx⟩)) (w.alloc (.cells c el)) (gI β sp k g ⟨w.heap.size,0,c.size⟩) (fun b x=>M b x∨b=w.heap.size)∧
  Tr st w β M (st.up (sp,k,⟨g,.cells cs r bx⟩)) (w.alloc (.cells c el)) (gI β sp k g ⟨w.heap.size,0,c.size⟩) (fun b x=>M b x∨b=w.heap.size):=by
 refine Vk h sp k g F (.cells c el) c.size (.cells cs r bx) ?_
 unfold dL
 simp only[bM]
 refine⟨c,el,(0,0),by rw[heap_alloc,if_pos rfl],by omega,D,rfl, ?_,fun j _ _=>Or.inr (by trivial),hs,Ib⟩
 simp only[List.drop_zero]
 exact jQ.ofP (PList.mono (oG w M _) _ _ H)
variable(dI:jS β st.gens w M st.rho a.eval)(h:ba B st w β M)
include dI h
theorem aj9{d:Nat}{sh nm:Bool}{c:Call}{t u e:TypeId}{ud:TypeDesc}{i:TypeInfo}{z:Value}{s x:Operand}{s' x':aP}(ho:o.op= .call c)(hb:c.callee= .builtin .append)(X:c.argTypes.toList= [t,u])(has:c.args.toList= [s,x])
  (ht:P.underlying t=some (.slice e)) (I:P.underlying u=some ud) (Y:ud= .string∨ ∃e',ud= .slice e') (hi:P.info? e=some i) (hz:i.zero=some z) (hsz:i.size=z.cells.size) (h0:i.size≠0) (hby:i.bytes≠0) (hs:eL s=some s') (hx:eL x=some x')
  (D:(bz d st.rho (.app i.size i.bytes s' x' sh nm)).run st.get st.sh.length=some (.val v ups)):dV P B st a w β M o v ups:=by
 have V:=dI s s' hs
 have vx:=dI x x' hx
 have hty:c.argTypes= #[t,u]:=by apply Array.ext';simp[X]
 have N: ∀cv w',(Builtin.append_ #[t,u] o.type #[a.eval s,a.eval x]).run P w= .ok cv w'→(execOp a.eval o).run P w= .ok (.value cv) w':=by
  intro cv w' hr
  rw[dP ho hb,abt has,hty]
  simp[builtin,hr]
 simp only[bz,jO,Q.run_bind]at D
 cases fq:(cm i.size (st.rho x')).run st.get st.sh.length with
 |none=>grind
 |some p=>
  obtain⟨n,xs⟩:=p
  simp only[fq,Option.bind_some]at D
  obtain⟨news,uN,n1,n2,n3⟩:=CB (P:=P) h vx fq
  have Lc:news.length=n*i.size:=by rw[←PList.length _ _ n1,n3]
  by_cases hn0:n=0
  ·rw[if_pos hn0]at D
   subst hn0
   have DF:news= []:=by apply List.eq_nil_of_length_eq_zero;simpa using Lc
   subst DF
   have same: ∀base dQ gG,a.eval s= .slice base dQ gG→dQ≤gG→dV P B st a w β M o (st.rho s') []:=by
    intro base dQ gG W hle
    refine aR h (cv:= .slice base dQ gG) ?_ (by rw[←W];exact V)
    have:=qm (P:=P) (w:=w) (w':=w) (t:=t) (u:=u) (ty:=o.type) (base:=base) (dQ:=dQ) (gG:=gG) (cx:=a.eval x) (n:=0) (news:= []) ht I Y hi (uN w rfl).1 (uN w rfl).2 yv (by cases base <;> simp[storeCells])
    exact N _ _ (by rw[W];exact this)
   grind [Q.run,aq,PRel]
  ·rw[if_neg hn0]at D
   have hz0:z.cells.size≠0:=yv
   have O: ∀(bx:Bool) (base:Option Addr) (dQ gG:Nat) (uM:List Value) (Z:List T) (sp:Sp) (k g wm:Nat),a.eval s= .slice base dQ gG→gG<dQ+n→(dQ+n)*i.bytes≤1099511627776→PList w M Z uM→Z.all single=true→Z.length=dQ*i.size→
     (Builtin.firstCells i.size dQ (.slice base dQ gG)).run P w.drew= .ok uM.toArray w.drew→st.gens sp k<g→wm≤Z.length→dV P B st a w β M o (.isl sp k g 0 (dQ+n) i.size) [(sp,k,⟨g,.cells (Z++xs) wm bx⟩)]:=by
    intro bx base dQ gG uM Z sp k g wm W hlt J ho1 ho2 ho3 hfc hg Ib
    have hr:=Ih (P:=P) (w:=w) (t:=t) (u:=u) (ty:=o.type) (base:=base) (dQ:=dQ) (gG:=gG) (cx:=a.eval x) (n:=n) (uM:=uM) (news:=news) ht I Y hi hz (uN w rfl).1 (uN w.drew rfl).2 hfc hlt J hby
    obtain⟨hd1,hd2⟩:=EU h (w.drawn+1)
    have hol:uM.length=dQ*i.size:=by rw[←PList.length _ _ ho1,ho3]
    have Az:=grownCap_ge w (dQ+n) gG e
    have hcs:(uM.toArray++news.toArray++Builtin.zeroCells z.cells (grownCap w (dQ+n) gG e-(dQ+n))).size=grownCap w (dQ+n) gG e*i.size:=by
     rw[Array.size_append,Array.size_append,size_zeroCells]
     simp only[List.size_toArray,hol,Lc,←hsz]
     rw[←Nat.add_mul,←Nat.add_mul];congr 1;omega
    have F:(Z++xs).length=uM.length+news.length:=by simp[ho3,n3,hol,Lc]
    obtain⟨r1,r2⟩:=abD (bx:=bx) hd1 e (uM.toArray++news.toArray++Builtin.zeroCells z.cells (grownCap w (dQ+n) gG e-(dQ+n))) (Z++xs) wm sp k g hg (by
     have:(uM.toArray++news.toArray++Builtin.zeroCells z.cells (grownCap w (dQ+n) gG e-(dQ+n))).toList.take (Z++xs).length=uM++news:=by
      rw[F]
      simp only[Array.toList_append,List.toList_toArray]
      rw[List.take_append_of_le_length xv]
      exact List.take_of_length_le xv
     rw[this]
     exact PList.mono hd2.keep _ _ (PList.append ho1 n1)) (by simp only[List.all_append,Bool.and_eq_true];exact⟨ho2,n2⟩) (by
     rw[hcs,F,hol,Lc,←Nat.add_mul];exact Nat.mul_le_mul_right _ Az) (by simp;omega)
    refine⟨_,_,_,_,_,N _ _ (by rw[W];exact hr),.inl rfl,r1,hd2.trans r2 (Nat.le_refl _), ?_, ?_⟩
    ·show w.heap.size≤(w.heap.push _).size;simp
    ·simp only[aq]
     refine⟨by simp[St.ups,eh],grownCap w (dQ+n) gG e, ?_,Az, ?_⟩
     ·rw[bM]
     ·rw[bM,hcs];exact Nat.le_of_eq (Nat.zero_add _)
   split at D
   ·rename_i W
    rw[W]at V;simp only[aq]at V
    split at D
    ·rename_i J
     unfold roomy at J
     obtain⟨sp,k,g,rfl,rfl,hg,_⟩:=jx D
     have:=O (nm&& !sh) none 0 0 [] [] sp k g 0 V yv (by simpa using J) (by simp[PList]) rfl xv (by simp[Builtin.firstCells]) hg (Nat.zero_le _)
     simpa using this
    ·simp[Q.run]at D
   ·rename_i cs len W
    rw[W]at V;simp only[aq,PRel]at V
    obtain⟨blk,off,H,dr,e1,e2,e3,e5,e4⟩:=V
    have:=e3 trivial;subst this
    split at D
    ·rename_i J
     simp at J
     unfold roomy at J
     obtain⟨sp,k,g,rfl,rfl,hg,_⟩:=jx D
     obtain⟨ol,f1,f2,f3,f4⟩:=PCells.load (P:=P) e4
     refine O false _ _ _ ol cs sp k g 0 e1 yv J.2 f3 f4 J.1 ?_ hg (Nat.zero_le _)
     have:=run_loadCells_list (P:=P) w.drew ⟨blk,off,dr⟩ ol (fun j u I=>by
      rcases e5 with e5|e5
      ·subst e5
       rw[dM];have:=f2 j u I;unfold World.cell? at this ⊢; exact this
      ·exfalso
       have h0:ol= []:=List.length_eq_zero_iff.1 (by rw[f1,J.1,e5,Nat.zero_mul])
       subst h0;simp at I)
     rw[f1,J.1]at this
     simp[Builtin.firstCells,this]
    ·simp[Q.run]at D
   ·rename_i sp k g off len sz W
    rw[W]at V;simp only[aq]at V
    obtain⟨q1,H,e1,e2,e3⟩:=V
    split at D
    ·rename_i J
     simp at J
     unfold roomy at J
     obtain⟨⟨rfl,rfl⟩,J⟩:=J
     simp only[Q.run]at D
     split at D
     ·rename_i hg
      have yw:=h.obj sp k
      generalize he:st.get sp k=en at*
      obtain⟨r,ob⟩:=en
      dsimp only at hg;subst hg
      cases ob with
      |none=>simp[Q.run]at D
      |map _ _ _=>simp[Q.run]at D
      |cells cs wm bx=>
       cases bx with
       |true=>simp[Q.run]at D
       |false=>
        dsimp only at D
        split at D
        ·rename_i F
         simp[Q.run]at D;obtain⟨rfl,rfl⟩:=D
         unfold dL at yw
         obtain⟨K,el,fz,h1,h2,h3,h4,h5,h6,h7,h8⟩:=yw
         dsimp only at h1 h2 h3 h4 h5 h6
         subst h4
         have DG:st.gens sp k=r:=by show(st.get sp k).g=r;rw[he]
         by_cases Ld:len+n≤H
         ·have Vy:(len+n)*i.size≤H*i.size:=Nat.mul_le_mul_right _ Ld
          rw[Nat.add_mul]at Vy
          have Vv:=av.one (PList.toV β st.gens _ _ n1) n2
          have fG:=run_storeCells_at P (β sp k r).blk ((β sp k r).off+len*i.size) el news 0 K w h1 yv Vv
          rw[ku h1]at fG
          simp only[Nat.add_zero]at fG
          rw[AF _ _ _ (by simp;omega)]at fG
          have hr:=qm (P:=P) (w:=w) (t:=t) (u:=u) (ty:=o.type) (base:=some ⟨(β sp k r).blk,(β sp k r).off+0,none⟩) (dQ:=len) (gG:=H) (cx:=a.eval x) (n:=n) (news:=news) ht I Y hi (uN w rfl).1 (uN w rfl).2 Ld (by
           dsimp only;rw[dM];simpa using fG)
          have U:=uJ h he (r+1) (Nat.le_succ _) h1 (len*i.size) news (cs++xs) yv yv (by simp;omega) (by simp[n3];omega) (by simp only[List.all_append,Bool.and_eq_true];exact⟨h7,n2⟩) (by
           show PList w M _ _
           have h5:PList w M cs _:=h5
           have:(splice (K.toList.drop (β sp k r).off) (len*i.size) news).take (cs++xs).length=(K.toList.drop (β sp k r).off).take cs.length++news:=by
            rw[←AF _ _ _ (by simp;omega),F,List.take_append_of_le_length (by simp[n3,Lc];omega)]
            exact List.take_of_length_le (by simp[n3,Lc];omega)
           rw[this]
           exact PList.append h5 n1)
          refine⟨_,_,_,_,_,N _ _ (by rw[e1];exact hr),.inl rfl,U.1,U.2,by rw[dS];exact Nat.le_refl _, ?_⟩
          simp only[aq]
          refine⟨by simp[St.ups,eh],H,by rw[bM],Ld,by rw[bM];exact e3⟩
         ·have Qm:PList w M cs ((K.toList.drop (β sp k r).off).take cs.length):=h5
          refine O false _ len H ((K.toList.drop (β sp k r).off).take cs.length) cs sp k (r+1) wm e1 yv J Qm h7 F.symm ?_ (by rw[DG];omega) h8
          have yV:=PList.length _ _ Qm
          have:=run_loadCells_list (P:=P) w.drew ⟨(β sp k r).blk,(β sp k r).off+0,none⟩ ((K.toList.drop (β sp k r).off).take cs.length) (fun j u I=>by
           rw[dM]
           rw[List.getElem?_take]at I
           split at I
           ·rw[List.getElem?_drop]at I
            unfold World.cell?
            show(match w.heap[(β sp k r).blk]? with|some (.cells c _ _)=>if(none:Option Nat).isSome then none else c[(β sp k r).off+0+j]? |_=>none)=some u
            rw[h1];simpa using I
           ·cases I)
          rw[←yV]at this
          simp only[Builtin.firstCells]
          rw[F]
          exact this
        ·split at D
         ·rename_i hpt
          simp only[Bool.and_eq_true,decide_eq_true_eq]at hpt
          obtain⟨⟨⟨rfl,rfl⟩,F⟩,yA⟩:=hpt
          simp[Q.run]at D;obtain⟨rfl,rfl⟩:=D
          unfold dL at yw
          obtain⟨K,el,fz,h1,h2,h3,h4,h5,h6,h7,h8⟩:=yw
          dsimp only at h1 h2 h3 h4 h5 h6
          subst h4
          have DG:st.gens sp k=r:=by show(st.get sp k).g=r;rw[he]
          have Qm:PList w M cs ((K.toList.drop (β sp k r).off).take cs.length):=h5
          have h5t:PList w M (cs.take (len*i.size)) ((K.toList.drop (β sp k r).off).take (len*i.size)):=by
           have:=PList.take (len*i.size) Qm
           rwa [List.take_take,Nat.min_eq_left yv]at this
          have DH:(cs.take (len*i.size)).length=len*i.size:=by rw[List.length_take];omega
          have X:(cs.take (len*i.size)).all single=true:=List.all_eq_true.2 fun x hx=>List.all_eq_true.1 h7 x (List.mem_of_mem_take hx)
          by_cases Ld:len+n≤H
          ·have Vy:(len+n)*i.size≤H*i.size:=Nat.mul_le_mul_right _ Ld
           rw[Nat.add_mul]at Vy
           have Vv:=av.one (PList.toV β st.gens _ _ n1) n2
           have fG:=run_storeCells_at P (β sp k r).blk ((β sp k r).off+len*i.size) el news 0 K w h1 yv Vv
           rw[ku h1]at fG
           simp only[Nat.add_zero]at fG
           rw[AF _ _ _ (by simp;omega)]at fG
           have hr:=qm (P:=P) (w:=w) (t:=t) (u:=u) (ty:=o.type) (base:=some ⟨(β sp k r).blk,(β sp k r).off+0,none⟩) (dQ:=len) (gG:=H) (cx:=a.eval x) (n:=n) (news:=news) ht I Y hi (uN w rfl).1 (uN w rfl).2 Ld (by
            dsimp only;rw[dM];simpa using fG)
           have U:=uJ h he (r+1) (Nat.le_succ _) h1 (len*i.size) news (cs.take (len*i.size)++xs) yA yv (by rw[List.length_append,DH];omega) (by rw[List.length_append,DH,n3];omega) (by simp only[List.all_append,Bool.and_eq_true];exact⟨X,n2⟩) (by
            show PList w M _ _
            have:(splice (K.toList.drop (β sp k r).off) (len*i.size) news).take (cs.take (len*i.size)++xs).length=(K.toList.drop (β sp k r).off).take (len*i.size)++news:=by
             have hl9:len*i.size+news.length≤(K.toList.drop (β sp k r).off).length:=by simp;omega
             rw[←AF _ _ _ (by simp;omega),List.length_append,DH,n3,←Lc]
             rw[List.take_append_of_le_length (by simp;omega)]
             exact List.take_of_length_le (by simp;omega)
            rw[this]
            exact PList.append h5t n1)
           refine⟨_,_,_,_,_,N _ _ (by rw[e1];exact hr),.inl rfl,U.1,U.2,by rw[dS];exact Nat.le_refl _, ?_⟩
           simp only[aq]
           refine⟨by simp[St.ups,eh],H,by rw[bM],Ld,by rw[bM];exact e3⟩
          ·refine O false _ len H ((K.toList.drop (β sp k r).off).take (len*i.size)) (cs.take (len*i.size)) sp k (r+1) wm e1 yv J h5t X DH ?_ (by rw[DG];omega) (by rw[DH];exact yA)
           have yV:=PList.length _ _ h5t
           rw[DH]at yV
           have:=run_loadCells_list (P:=P) w.drew ⟨(β sp k r).blk,(β sp k r).off+0,none⟩ ((K.toList.drop (β sp k r).off).take (len*i.size)) (fun j u I=>by
            rw[dM]
            rw[List.getElem?_take]at I
            split at I
            ·rw[List.getElem?_drop]at I
             unfold World.cell?
             show(match w.heap[(β sp k r).blk]? with|some (.cells c _ _)=>if(none:Option Nat).isSome then none else c[(β sp k r).off+0+j]? |_=>none)=some u
             rw[h1];simpa using I
            ·cases I)
           rw[←yV]at this
           simp only[Builtin.firstCells]
           exact this
         ·simp[Q.run]at D
     ·simp[Q.run]at D
    ·simp[Q.run]at D
   ·simp[Q.run]at D
end
end Go.Ev
namespace Go.Ev
open Go
theorem abE{P:Program}{β:aO}{G:Sp→Nat→Nat}{w:World}{M:MSet}{s t e:TypeId}{k:Nat}{ex:Bool}{v:Value}(hs:P.underlying s=some (.slice e))(J:P.underlying e=some (.int .u8))(K:P.underlying t=some .string)(H:aq β G w M (.sl [.i .u8 (k:Int)] 1 ex) v)(hk:k<256):
  ∃I,(convert s t v).run P w= .ok (.string I) w∧bytesN I= [k]:=by
 simp only[aq,PRel,PCells]at H
 obtain⟨r,off,N,sp,rfl,h1,h2,h3,⟨u,h4,h5,rfl,h6⟩,_⟩:=H
 have D:sp=none:=h3.resolve_right yv
 subst D
 have:=run_loadCells_list (P:=P) w ⟨r,off,none⟩ [.int .u8 k] (fun j u F=>by
  cases j with
  |zero=>simp at F;subst F;rw[dM];exact h4
  |succ j=>simp at F)
 simp only[List.length_cons,List.length_nil,Nat.zero_add]at this
 refine⟨ByteArray.empty.push (UInt8.ofNat k), ?_, ?_⟩
 ·simp[convert,run_underlying hs,run_underlying K,run_underlying J,Conv.bytesToString,this]
 ·have:(UInt8.ofNat k).toNat=k:=by simp[UInt8.toNat_ofNat'];omega
  show [(UInt8.ofNat k).toNat]= [k]
  rw[this]
section
variable{P:Program}{B:eS}{st:St}{a:Act}{w:World}{β:aO}{M:MSet}{o:Oper}{v:T}{ups:List Up}
theorem lM{x:Option T}{h:Sp→Nat→ah}{nx:Nat}(r:(Ev.val x).run h nx=some (.val v ups)):x=some v∧ups= []:=by
 cases x with
 |none=>simp[Ev.val,Q.run]at r
 |some y=>grind [Ev.val,Q.run]
theorem abF(dI:jS β st.gens w M st.rho a.eval)(h:ba B st w β M){c:Call}(r:o.op= .call c){sh:Nat}{KE:mh}{d:Nat}(hc:nD P sh c=some KE)
  (D:(bz d st.rho KE).run st.get st.sh.length=some (.val v ups)):dV P B st a w β M o v ups:=by
 unfold nD at hc
 split at hc
 ·grind [Option.map_eq_some_iff,bz,Q.run]
 ·grind [bz,Q.run]
 ·grind [bz,Q.run,abu,abv,abw,abx]
 ·rename_i F
  split at hc
  ·rename_i t u x y h1 h2
   split at hc
   ·grind [aj9]
   ·cases hc
  ·cases hc
 ·grind [Option.map_eq_some_iff,ahQ]
 ·grind [Option.map_eq_some_iff,ahQ]
 ·cases hc
theorem aka(dI:jS β st.gens w M st.rho a.eval)(h:ba B st w β M){s t e:TypeId}{x:Operand}{r:aP}(H:o.op= .convert s t x)(hx:eL x=some r)(hs:P.underlying s=some (.slice e))(I:P.underlying e=some (.int .u8))(J:P.underlying t=some .string){k:Nat}{ex:Bool}(K:st.rho r= .sl [.i .u8 (k:Int)] 1 ex)(hk:k<256):dV P B st a w β M o (.s [k]) []:=by
 have D:=dI x r hx
 rw[K]at D
 obtain⟨F,e1,e2⟩:=abE hs I J D hk
 exact aR h (cv:= .string F) (by simp[execOp,H,e1]) (by simp only[aq];exact⟨F,rfl,e2⟩)
theorem au4(dI:jS β st.gens w M st.rho a.eval)(h:ba B st w β M){sh:Nat}{KE:mh}{d:Nat}(hc:cE P sh o.op=some KE)
  (D:(bz d st.rho KE).run st.get st.sh.length=some (.val v ups)):dV P B st a w β M o v ups:=by
 cases AI:o.op with
 |move x=>
  grind [cE,Option.map_eq_some_iff,bz,Q.run,ahO]
 |assign x=>
  rw[AI]at hc;simp only[cE,Option.map_eq_some_iff]at hc
  obtain⟨y,h1,rfl⟩:=hc
  simp[bz,Q.run]at D;obtain⟨rfl,rfl⟩:=D
  simp_all[ahO]
 |pick c x y=>
  grind [cE,bz,Q.run,abn]
 |alloc t=>
  grind [cE,Vr]
 |box t x=>
  grind [cE,Option.map_eq_some_iff,aj3]
 |build t J=>
  grind [cE,Option.map_eq_some_iff,Vo]
 |buildSlice t len J=>
  grind [cE,aj6]
 |load t x=>
  grind [cE,auN]
 |store t x y=>
  grind [cE,auX]
 |nilCheck x=>
  grind [cE,Option.map_eq_some_iff,ajP]
 |binOp op t x y X=>
  rw[AI]at hc;simp only[cE]at hc
  split at hc
  ·rename_i Y Z h1 h2
   split at hc
   ·rename_i hk
    simp at hc;subst hc
    obtain⟨e1,rfl⟩:=lM D
    simp only[Option.map_eq_some_iff]at e1
    obtain⟨r,e2,rfl⟩:=e1
    exact Nv (neg:=false) dI h AI h1 h2 (by have:=oI hk;simp[At,this]) xv e2
   ·rename_i hk
    simp at hc;subst hc
    obtain⟨e1,rfl⟩:=lM D
    simp only[Option.map_eq_some_iff]at e1
    obtain⟨r,e2,rfl⟩:=e1
    exact Nv (neg:=true) dI h AI h1 h2 (by have:=oI hk;simp[At,this]) xv e2
   ·simp at hc;subst hc
    obtain⟨e1,rfl⟩:=lM D
    grind [ajQ]
   ·rename_i hk
    simp only[Option.map_eq_some_iff]at hc
    obtain⟨k,h3,rfl⟩:=hc
    obtain⟨e1,rfl⟩:=lM D
    simp only[Option.map_eq_some_iff]at e1
    obtain⟨r,e2,rfl⟩:=e1
    refine Nv (neg:=false) dI h AI h1 h2 h3 ?_ e2
    have H:=lJ h3
    grind
   ·rename_i hk
    simp only[Option.map_eq_some_iff]at hc
    obtain⟨k,h3,rfl⟩:=hc
    obtain⟨e1,rfl⟩:=lM D
    simp only[Option.map_eq_some_iff]at e1
    obtain⟨r,e2,rfl⟩:=e1
    refine Nv (neg:=true) dI h AI h1 h2 h3 ?_ e2
    have H:=lJ h3
    grind
   ·cases hc
  ·cases hc
 |unOp op t x=>
  rw[AI]at hc;simp only[cE,Option.map_eq_some_iff]at hc
  obtain⟨y,h1,rfl⟩:=hc
  obtain⟨e1,rfl⟩:=lM D
  grind [auM]
 |convert s t x=>
  rw[AI]at hc;simp only[cE]at hc
  split at hc
  ·grind [bz,Q.run,ajS]
  ·rename_i e y h1 h2 h3
   split at hc
   ·rename_i h4
    simp at hc;subst hc
    simp only[bz]at D
    split at D
    ·rename_i k ex h5
     split at D
     ·rename_i hk
      simp[Q.run]at D;obtain⟨rfl,rfl⟩:=D
      exact aka dI h AI h3 h1 h4 h2 h5 hk
     ·simp[Q.run]at D
    ·simp[Q.run]at D
   ·cases hc
  ·cases hc
 |makeFunc K first N=>
  rw[AI]at hc
  cases K <;> simp only[cE]at hc <;> try (cases hc;done)
  grind [bz,Q.run,abq]
 |makeMap t r=>
  rw[AI]at hc
  cases r <;> simp only[cE]at hc
  ·grind [Vt]
  ·cases hc
 |makeSlice t l c=>
  grind [cE,aby]
 |slice t x l O m=>
  rw[AI]at hc;simp only[cE]at hc
  split at hc
  ·rename_i y U V h1 h2 h3 h4 h5
   simp at hc;subst hc
   have I:m=none:=by cases m <;> simp[pQ]at h5 ⊢
   grind [ajZ]
  ·rename_i e y U V m' h1 h2 h3 h4 h5
   split at hc
   ·rename_i n W
    split at hc
    ·rename_i F
     simp at F hc;subst hc
     refine aj0 dI h AI h2 h3 h4 h5 h1 W F.1 ?_ D
     intro I
     rcases F.2 with e1|e1
     ·cases m with
      |none=>simp at I
      |some mm=>grind [pQ,Option.map_eq_some_iff]
     ·cases O with
      |none=>grind [pQ]
      |some _=>rfl
    ·cases hc
   ·cases hc
  ·cases hc
 |fieldAddr s x f=>
  grind [cE,auO]
 |field s x f=>
  grind [cE,ajV]
 |indexAddr t x j=>
  grind [cE,auP,ajY]
 |index t x j=>
  grind [cE,ajX,ajW]
 |lookup t m k ok=>
  grind [cE,auZ]
 |mapUpdate t m k x=>
  grind [cE,Option.map_eq_some_iff,au0]
 |extract x j=>
  rw[AI]at hc;simp only[cE,Option.map_eq_some_iff]at hc
  obtain⟨y,h1,rfl⟩:=hc
  simp only[bz]at D
  split at D
  ·rename_i vs e
   obtain⟨e1,rfl⟩:=lM D
   grind [ajT]
  ·simp[Q.run]at D
 |call c=>grind [cE,abF]
 |_=>grind [cE]
end
end Go.Ev
