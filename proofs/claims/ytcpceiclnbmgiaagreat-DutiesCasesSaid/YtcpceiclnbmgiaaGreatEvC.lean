/- A tree evaluator over the model, proved against it (part C): where it answers, the call returns that answer. Conditions: none beyond its theorems' own. -/
import Derived.Test.YtcpceiclnbmgiaaGreatEvB
import Derived.Laws.Tables
set_option linter.unusedSimpArgs false
set_option linter.unusedVariables false
namespace Go.Ev
open Go
theorem uE{P:Program}{t:TypeId}{z:T}(h:nX P t=some z): ∃i r,P.info? t=some i∧i.zero=some r∧A0 r=some z:=by
 unfold nX at h
 cases hi:P.info? t with
 |none=>simp[hi]at h
 |some i=>
  simp only[hi,Option.bind_some]at h
  cases D:i.zero with
  |none=>simp[D]at h
  |some r=>grind
theorem DO{P:Program}{t:TypeId}{z:T}(h:nX P t=some z)(w:World): ∃r,(zeroValue t).run P w= .ok r w∧ ∀w M,PRel w M z r:=by
 obtain⟨i,r,h1,h2,h3⟩:=uE h
 exact⟨r,by simp[zeroValue,typeInfo,h1,h2],fun w M=>lW h3⟩
theorem pc{β:aV}{G:Sp→Nat→Nat}{w:World}{M:aG}{t:T}{cv:Value}(h:aq β G w M t cv)(r:noTup t=true):au β G w M (cellsOf t) cv.cells.toList∧(cellsOf t).all single=true:=by
 cases t
 case agg cs=>
  simp only[aq]at h
  obtain⟨a,rfl,h1,h2⟩:=h
  exact⟨h1,h2⟩
 case tup cs=>simp[noTup]at r
 case any=>simp[noTup]at r
 all_goals
  have D:=h
  simp only[aq,PRel]at h
  refine⟨?_,rfl⟩
  simp only[cellsOf,au]
  refine⟨cv,[], ?_,D,rfl⟩
  first
   |(subst h;rfl)
   |(obtain⟨_,rfl,_⟩:=h;rfl)
   |(obtain⟨_,_,rfl,_⟩:=h;rfl)
   |(obtain⟨_,_,_,rfl,_⟩:=h;rfl)
   |(obtain⟨_,_,_,_,rfl,_⟩:=h;rfl)
   |(obtain⟨_,rfl⟩:=h;rfl)
theorem uF{w:World}{M:aG}{t:T}{cv:Value}(h:PRel w M t cv)(r:noTup t=true):PList w M (cellsOf t) cv.cells.toList∧(cellsOf t).all single=true:=by
 cases t
 case agg cs=>
  simp only[PRel]at h
  obtain⟨a,rfl,h1,h2⟩:=h
  exact⟨h1,h2⟩
 case tup cs=>simp[noTup]at r
 case any=>simp[noTup]at r
 case isl=>simp only[PRel]at h
 case ptr=>simp only[PRel]at h
 case mp=>simp only[PRel]at h
 all_goals
  have D:=h
  simp only[PRel]at h
  refine⟨?_,rfl⟩
  simp only[cellsOf,PList]
  refine⟨cv,[], ?_,D,rfl⟩
  first
   |(subst h;rfl)
   |(obtain⟨_,rfl,_⟩:=h;rfl)
   |(obtain⟨_,_,rfl,_⟩:=h;rfl)
   |(obtain⟨_,_,_,rfl,_⟩:=h;rfl)
   |(obtain⟨_,_,_,_,rfl,_⟩:=h;rfl)
theorem df{α:Type}: ∀(cs:List α) (off:Nat) (r:List α),(splice cs off r).length=cs.length
 |cs,0,[]=>by grind [splice]
 | [],0,v::r=>by simp[splice]
 |c::cs,0,v::r=>by simp[splice,df cs 0 r]
 | [],off+1,r=>by simp[splice]
 |c::cs,off+1,r=>by simp[splice,df cs off r]
theorem lZ{α:Type}: ∀(cs:List α) (off:Nat),splice cs off []=cs
 |cs,0=>by grind [splice]
 | [],off+1=>by simp[splice]
 |c::cs,off+1=>by simp[splice,lZ cs off]
theorem xV{α:Type}: ∀(cs:List α) (off:Nat) (v:α) (r:List α),splice (cs.set off v) (off+1) r=splice cs off (v::r)
 | [],off,v,r=>by grind [splice]
 |c::cs,0,v,r=>by simp[splice]
 |c::cs,off+1,v,r=>by simp[splice,xV cs off v r]
theorem fu{α:Type}: ∀(cs:List α) (off:Nat) (r:List α) (j:Nat),(splice cs off r)[j]? =if off≤j∧j<off+r.length∧j<cs.length then r[j-off]? else cs[j]?
 |cs,0,[],j=>by rw[lZ];simp
 | [],0,v::r,j=>by simp[splice]
 |c::cs,0,v::r,0=>by simp[splice]
 |c::cs,0,v::r,j+1=>by simp[splice,fu cs 0 r j]
 | [],off+1,r,j=>by simp[splice]
 |c::cs,off+1,r,0=>by simp[splice]
 |c::cs,off+1,r,j+1=>by
  simp only[splice,List.getElem?_cons_succ,fu cs off r j,List.length_cons]
  grind
theorem au.splice{β:aV}{G:Sp→Nat→Nat}{w:World}{M:aG}: ∀{cs:List T} {r:List Value} {off:Nat} {D:List T} {Le:List Value},au β G w M cs r→au β G w M D Le→au β G w M (splice cs off D) (splice r off Le)
 |cs,r,0,[],Le,h1,h2=>by grind [au,lZ]
 | [],r,0,v::D,Le,h1,h2=>by grind [au,Ev.splice]
 |c::cs,r,0,v::D,Le,h1,h2=>by
  simp only[au]at h1 h2
  obtain⟨a,as,rfl,H,F⟩:=h1
  obtain⟨u,us,rfl,I,J⟩:=h2
  simp only[Ev.splice,au]
  exact⟨u,_,rfl,I,au.splice F J⟩
 | [],r,off+1,D,Le,h1,h2=>by simp_all[au,Ev.splice]
 |c::cs,r,off+1,D,Le,h1,h2=>by
  simp only[au]at h1
  obtain⟨a,as,rfl,H,F⟩:=h1
  simp only[Ev.splice,au]
  exact⟨a,_,rfl,H,au.splice F h2⟩
theorem PList.splice{w:World}{M:aG}: ∀{cs:List T} {r:List Value} {off:Nat} {D:List T} {Le:List Value},PList w M cs r→PList w M D Le→PList w M (splice cs off D) (splice r off Le)
 |cs,r,0,[],Le,h1,h2=>by grind [PList,lZ]
 | [],r,0,v::D,Le,h1,h2=>by grind [PList,Ev.splice]
 |c::cs,r,0,v::D,Le,h1,h2=>by
  simp only[PList]at h1 h2
  obtain⟨a,as,rfl,H,F⟩:=h1
  obtain⟨u,us,rfl,I,J⟩:=h2
  simp only[Ev.splice,PList]
  exact⟨u,_,rfl,I,PList.splice F J⟩
 | [],r,off+1,D,Le,h1,h2=>by simp_all[PList,Ev.splice]
 |c::cs,r,off+1,D,Le,h1,h2=>by
  simp only[PList]at h1
  obtain⟨a,as,rfl,H,F⟩:=h1
  simp only[Ev.splice,PList]
  exact⟨a,_,rfl,H,PList.splice F h2⟩
theorem pd{p:T→Bool}{cs r:List T}{off:Nat}(h1:cs.all p=true)(h2:r.all p=true):(splice cs off r).all p=true:=by
 grind [List.all_eq_true,fu,List.getElem?_of_mem]
theorem wI(off:Nat): ∀(D:List Value) (s:Nat) (r:Array Value),((D.zipIdx s).foldl (fun(cs:Array Value) (p:Value×Nat)=>cs.setIfInBounds (off+p.2) p.1) r).toList=splice r.toList (off+s) D
 | [],s,r=>by simp[lZ]
 |v::D,s,r=>by
  simp only[List.zipIdx_cons,List.foldl_cons]
  rw[wI off D (s+1),Array.toList_setIfInBounds,←Nat.add_assoc,xV]
theorem NA{β:aV}{G:Sp→Nat→Nat}{w:World}{M:aG}{place:Nat→Option (Nat×Nat)}: ∀(parts:List (Nat×Value)) (F:List (Nat×List T)) (H:List T) (D:Array Value) (rs:List T),
  au β G w M H D.toList→H.all single=true→parts.length=F.length→(∀(j i:Nat) (cv:Value) (off:Nat) (ts:List T),parts[j]? =some (i,cv)→F[j]? =some (off,ts)→place i=some (off,ts.length)∧au β G w M ts cv.cells.toList∧ts.all single=true)→
  mW H F=some rs→ ∃rc,Instr.fill place D parts=some rc∧au β G w M rs rc.toList∧rs.all single=true
 | [],F,H,D,rs,J,hs,r,K,I=>by
   grind [mW,Instr.fill]
 |(i,cv)::parts,F,H,D,rs,J,hs,r,K,I=>by
  cases F with
  |nil=>simp at r
  |cons p F=>
   obtain⟨off,ts⟩:=p
   simp only[mW]at I
   split at I
   ·rename_i O
    obtain⟨W,N,U⟩:=K 0 i cv off ts rfl rfl
    have A8:=au.length _ _ N
    have KH:=au.length _ _ J
    have X:cv.cells.size=ts.length:=by rw[A8];simp
    have V:D.size=H.length:=by rw[KH];simp
    have hc: ¬((cv.cells.size≠ts.length||off+cv.cells.size>D.size)=true):=by
     grind
    have e:(cv.cells.zipIdx.foldl (fun(cs:Array Value) (p:Value×Nat)=>cs.setIfInBounds (off+p.2) p.1) D).toList=splice D.toList off cv.cells.toList:=by
     have:=wI off cv.cells.toList 0 D
     grind [Array.toList_zipIdx]
    obtain⟨rc,Y,Z,r3⟩:=NA parts F (splice H off ts) (cv.cells.zipIdx.foldl (fun(cs:Array Value) (p:Value×Nat)=>cs.setIfInBounds (off+p.2) p.1) D) rs
     (by rw[e];exact au.splice J N) (pd hs U) (by simpa using r) (fun j i cv off ts a b=>K (j+1) i cv off ts (by simpa using a) (by simpa using b)) I
    grind [Instr.fill]
   ·cases I
section
variable{P:Program}{B:fA}{st:St}{a:Act}{w:World}{β:aV}{M:aG}{o:Oper}{v:T}{ups:List Up}
theorem uG{F:List (Nat×Nat)}: ∀{D:List (Nat×Operand)} {r:List (Nat×Nat×aX)},placesOf F D=some r→D.length=r.length∧ ∀(j i:Nat) (x:Operand) (off n:Nat) (y:aX),D[j]? =some (i,x)→r[j]? =some (off,n,y)→F[i]? =some (off,n)∧fm x=some y
 | [],r,h=>by grind [placesOf]
 |(H,x0)::D,r,h=>by
  simp only[placesOf]at h
  split at h
  ·rename_i p y I h1 h2 h3
   simp at h;subst h
   obtain⟨a1,a2⟩:=uG h3
   grind
  ·cases h
theorem sO{sz:Nat}: ∀{D:List (Nat×Operand)} {r:List (Nat×Nat×aX)},lM sz D=some r→D.length=r.length∧ ∀(j i:Nat) (x:Operand) (off n:Nat) (y:aX),D[j]? =some (i,x)→r[j]? =some (off,n,y)→(off=i*sz∧n=sz)∧fm x=some y
 | [],r,h=>by grind [lM]
 |(F,x0)::D,r,h=>by
  simp only[lM]at h
  split at h
  ·rename_i y H h2 h3
   simp at h;subst h
   obtain⟨a1,a2⟩:=sO h3
   grind
  ·cases h
variable(ep:kH β st.gens w M st.rho a.eval)(h:bh B st w β M)
include ep h
theorem Vy{d nx:Nat}{t:TypeId}{D:Array (Nat×Operand)}{z:T}{r:List (Nat×Nat×aX)}(ho:o.op= .build t D)(hz:nX P t=some z)
  (O:(∃U H,P.underlying t=some (.struct U)∧U.toList.mapM (fun f=>(P.info? f.type).map fun i=>(f.offset,i.size))=some H∧placesOf H D.toList=some r)∨(∃n e sz,P.underlying t=some (.array n e)∧fi P e=some sz∧lM sz D.toList=some r))
  (Fx:noTup z=true) (I:(bC d st.rho (.build (cellsOf z) r)).run st.get nx=some (.val v ups)):eH P B st a w β M o v ups:=by
 obtain⟨i,V,z1,z2,z3⟩:=uE hz
 have W:aq β st.gens w M z V:=PRel.toV _ _ _ _ (lW z3)
 obtain⟨X,Y⟩:=pc W Fx
 simp only[bC]at I
 split at I
 ·rename_i bA
  cases Z:mW (cellsOf z) (r.map fun p=>(p.1,cellsOf (st.rho p.2.2)))with
  |none=>simp[Z,Ev.val,Q.run]at I
  |some rs=>
   simp[Z,Ev.val,Q.run]at I;obtain⟨rfl,rfl⟩:=I
   have parts: ∃place:Nat→Option (Nat×Nat),(∀rc,Instr.fill place V.cells (D.toList.map fun p=>(p.1,a.eval p.2))=some rc→P.built t (D.map fun(i,x)=>(i,a.eval x)).toList=some rc)∧D.toList.length=r.length∧
     ∀(j i:Nat) (x:Operand) (off n:Nat) (y:aX),D.toList[j]? =some (i,x)→r[j]? =some (off,n,y)→place i=some (off,n)∧fm x=some y:=by
    rcases O with⟨U,H,u1,u2,u3⟩|⟨n,e,sz,u1,u2,u3⟩
    ·obtain⟨g1,g2⟩:=uG u3
     refine⟨fun i=>H[i]?,fun rc F=> ?_,g1,g2⟩
     simp only[Program.built,z1,z2,u1,u2,Array.toList_map]
     have:(fun x:Nat=>H.toArray[x]?)=fun i=>H[i]? :=by funext i;simp
     rw[this];exact F
    ·obtain⟨g1,g2⟩:=sO u3
     have: ∃J,P.info? e=some J∧J.size=sz:=by
      simp_all[fi]
     obtain⟨J,v1,v2⟩:=this
     refine⟨fun i=>some (i*J.size,J.size),fun rc F=> ?_,g1,fun j i x off n y K N=> ?_⟩
     ·simp only[Program.built,z1,z2,u1,v1,Array.toList_map];exact F
     ·obtain⟨⟨rfl,rfl⟩,c⟩:=g2 j i x off n y K N
      exact⟨by rw[v2],c⟩
   obtain⟨place,q1,q2,q3⟩:=parts
   obtain⟨rc,r1,r2,r3⟩:=NA (place:=place) (D.toList.map fun p=>(p.1,a.eval p.2)) _ (cellsOf z) V.cells rs X Y (by simp[q2]) (by
    intro j i cv off ts K N
    rw[List.getElem?_map,Option.map_eq_some_iff]at K N
    obtain⟨⟨i',x⟩,c1,c2⟩:=K
    obtain⟨⟨aDN,n,y⟩,c3,c4⟩:=N
    simp at c2 c4
    obtain⟨rfl,rfl⟩:=c2
    obtain⟨rfl,rfl⟩:=c4
    obtain⟨e1,e2⟩:=q3 j i' x aDN n y c1 c3
    have hv:=ep x y e2
    have Vz:=(List.all_eq_true.1 bA) _ (List.mem_of_getElem? c3)
    simp at Vz
    obtain⟨k1,k2⟩:=pc hv Vz.2
    exact⟨by rw[e1,Vz.1],k1,k2⟩) Z
   refine be h (cv:= .agg rc) ?_ (by simp only[aq];exact⟨rc,rfl,r2,r3⟩)
   have:=run_build (P:=P) w t (D.map fun(i,x)=>(i,a.eval x)) rc (q1 rc r1)
   simp[execOp,ho,this]
 ·simp[Q.run]at I
end
end Go.Ev
namespace Go.Ev
open Go
theorem jX{st:St}{d:Nat}{sh:Bool}{ob:Ob}{f:Sp→Nat→Nat→T}{v:T}{ups:List Up}(h:(jq d sh ob f).run st.get st.sh.length=some (.val v ups)):
  ∃sp k g,v=f sp k g∧ups= [(sp,k,⟨g,ob⟩)]∧st.gens sp k<g∧(sp= .S→sh=true):=by
 grind [jq,Q.run,St.get,DL,fv]
theorem uH{α:Type}(z:List α): ∀n,(repl z n).length=n*z.length
 |0=>by simp[repl]
 |n+1=>by simp[repl,uH z n,Nat.add_mul];omega
theorem Ig{α:Type}(z:List α)(r:z≠ []): ∀(n j:Nat),j<n*z.length→(repl z n)[j]? =z[j%z.length]?
 |0,j,h=>by simp at h
 |n+1,j,h=>by
  have F:0<z.length:=List.length_pos_iff.2 r
  simp only[repl]
  by_cases D:j<z.length
  ·rw[List.getElem?_append_left D,Nat.mod_eq_of_lt D]
  ·rw[List.getElem?_append_right zO,Ig z r n (j-z.length) (by rw[Nat.add_mul]at h;omega)]
   grind [Nat.mod_eq_sub_mod]
theorem Bb(z:Array Value)(n:Nat)(r:z.size≠0):((Array.range (n*z.size)).map (fun i=>z[i%z.size]!)).toList=repl z.toList n:=by
 apply List.ext_getElem?
 grind [Ig,List.getElem?_eq_none,uH,Nat.mod_lt]
theorem PList.repl{w:World}{M:aG}{z:List T}{r:List Value}(h:PList w M z r): ∀n,PList w M (Ev.repl z n) (Ev.repl r n)
 |0=>by simp[Ev.repl,PList]
 |n+1=>by simp only[Ev.repl];exact PList.append h (PList.repl h n)
theorem Bc{z:List T}(h:z.all single=true): ∀n,(repl z n).all single=true
 |0=>by simp[repl]
 |n+1=>by simp only[repl,List.all_append,Bool.and_eq_true];exact⟨h,Bc h n⟩
theorem C5{P:Program}{w:World}{t e:TypeId}{i:TypeInfo}{r:Value}{k:IntKind}{m:Int}(F:P.underlying t=some (.slice e))(hi:P.info? e=some i)(H:i.zero=some r)(I:0≤m)(VA:IntKind.i64.wrap m=m)
  (J:(i.bytes:Int)*m≤281474976710656) (K:m.toNat*i.bytes≤140737488355328):
  (Instr.makeSlice t (.int k m) (.int k m)).run P w= .ok (.slice (some ⟨w.heap.size,0,none⟩) m.toNat m.toNat) (w.alloc (.cells ((Array.range (m.toNat*i.size)).map (fun j=>r.cells[j%r.cells.size]!)) e)):=by
 have h1: ¬(m<0):=zO
 have h2: ¬(281474976710656<(i.bytes:Int)*m):=zO
 have h3: ¬(140737488355328<m.toNat*i.bytes):=zO
 have h4: ¬(m.toNat*i.bytes>roomBytes):=by unfold roomBytes;omega
 simp only[Instr.makeSlice,Sem.run_bind,run_underlying F,Result.andThen_ok,asInt,asIntOf,Sem.run_pure,typeInfo,run_program,hi,VA]
 simp only[h1,decide_false,Bool.false_or,Int.lt_irrefl,gt_iff_lt,Bool.or_false]
 rw[if_neg (by simp;omega)]
 simp only[Sem.run_bind,askRoom,if_neg h4,Sem.run_pure,Result.andThen_ok,sizeOf,typeInfo,run_program,hi]
 by_cases D:m.toNat*i.size=0
 ·rw[if_pos D,D]
  have:Array.range 0= #[]:=rfl
  simp[newRow,this]
 ·rw[if_neg D]
  simp[newRow,zeroValue,typeInfo,hi,H]
section
variable{P:Program}{B:fA}{st:St}{a:Act}{w:World}{β:aV}{M:aG}{o:Oper}{v:T}{ups:List Up}
theorem wK(h:bh B st w β M)(el:TypeId)(c:Array Value)(cs:List T)(bx:Bool)(sp:Sp)(k g:Nat)(H:st.gens sp k<g)
  (I:kG sp bx β st.gens w M cs (c.toList.take cs.length)) (hs:cs.all single=true) (D:cs.length≤c.size):
  bh B (st.up (sp,k,⟨g,.cells cs 0 bx⟩)) (w.alloc (.cells c el)) (iQ β sp k g ⟨w.heap.size,0,c.size⟩) (fun b x=>M b x∨b=w.heap.size)∧
  Tr st w β M (st.up (sp,k,⟨g,.cells cs 0 bx⟩)) (w.alloc (.cells c el)) (iQ β sp k g ⟨w.heap.size,0,c.size⟩) (fun b x=>M b x∨b=w.heap.size):=by
 have J: ∀r k' F,F≤st.gens r k'→iQ β sp k g ⟨w.heap.size,0,c.size⟩ r k' F=β r k' F:=by
  grind [uA]
 have K: ∀r k',st.gens r k'≤(st.up (sp,k,⟨g,.cells cs 0 bx⟩)).gens r k':=by
  intro r k'
  rw[eP]
  grind
 refine Vt h sp k g H (.cells c el) c.size (.cells cs 0 bx) ?_
 unfold ev
 simp only[bX]
 refine⟨c,el,(0,0),by rw[heap_alloc,if_pos rfl],by omega,D,rfl, ?_,fun j _ _=>Or.inr (by trivial),hs,Nat.zero_le _⟩
 simp only[List.drop_zero]
 exact kG.mono (oY w M _) J K I
theorem Fy{o':Obj}{sp:Sp}{k g:Nat}{ob:Ob}{ext:Nat}{cv:Value}{v:T}(hr:(execOp a.eval o).run P w= .ok (.value cv) (w.alloc o'))
  (r:bh B (st.up (sp,k,⟨g,ob⟩)) (w.alloc o') (iQ β sp k g ⟨w.heap.size,0,ext⟩) (fun b x=>M b x∨b=w.heap.size)∧
    Tr st w β M (st.up (sp,k,⟨g,ob⟩)) (w.alloc o') (iQ β sp k g ⟨w.heap.size,0,ext⟩) (fun b x=>M b x∨b=w.heap.size))
  (D:aq (iQ β sp k g ⟨w.heap.size,0,ext⟩) (st.up (sp,k,⟨g,ob⟩)).gens (w.alloc o') (fun b x=>M b x∨b=w.heap.size) v cv):eH P B st a w β M o v [(sp,k,⟨g,ob⟩)]:=
 ⟨_,cv,_,_,_,hr,.inl rfl,r.1,r.2,by show _≤(w.heap.push o').size;simp,D⟩
theorem Tr.less{M':aG}(hs: ∀b x,M' b x→M b x):Tr st w β M st w β M':=⟨dz hs,fun _ _ _ _=>rfl,fun _ _=>Nat.le_refl _⟩
theorem eH.less{M':aG}(hs: ∀b x,M' b x→M b x)(h:eH P B st a w β M' o v ups):eH P B st a w β M o v ups:=by
 obtain⟨nx,cv,w',r,M2,h1,h2,h3,h4,h5,h6⟩:=h
 exact⟨nx,cv,w',r,M2,h1,h2,h3,(Tr.less hs).trans h4 (Nat.le_refl _),h5,h6⟩
theorem uI{l:List Value}{n:Nat}(h:n=l.length):l.take n=l:=by subst h;simp
variable(ep:kH β st.gens w M st.rho a.eval)(h:bh B st w β M)
include h
theorem VB{d:Nat}{sh:Bool}{t:TypeId}{z:T}(H:o.op= .alloc t)(I:nX P t=some z)(Fx:noTup z=true)
  (D:(bC d st.rho (.alloc (cellsOf z) sh)).run st.get st.sh.length=some (.val v ups)):eH P B st a w β M o v ups:=by
 simp only[bC]at D
 obtain⟨sp,k,g,rfl,rfl,J,K⟩:=jX D
 obtain⟨N,O,U⟩:=DO I w
 obtain⟨F,V⟩:=uF (U w M) Fx
 have r:=PList.length _ _ F
 refine Fy (cv:= .pointer (some ⟨w.heap.size,0,none⟩)) ?_ (wK h t N.cells (cellsOf z) true sp k g J (by rw[uI r];exact kG.ofP F) V (by rw[r];simp)) ?_
 ·simp[execOp,H,Instr.alloc,O,newVar,newRow]
 ·simp[aq,bX,eP]
include ep
theorem akU{d:Nat}{sh:Bool}{t:TypeId}{x:Operand}{H:aX}(X:o.op= .box t x)(hx:fm x=some H)
  (r:(bC d st.rho (.box H sh)).run st.get st.sh.length=some (.val v ups)):eH P B st a w β M o v ups:=by
 have Y:=ep x H hx
 simp only[bC]at r
 split at r
 ·simp[Q.run]at r
 ·rename_i KJ
  simp at KJ
  have I: ∀(M':aG) (D:T),bh B st w β M'→noTup D=true→ ∀sp k g,st.gens sp k<g→(match sp with| .L=>aq β st.gens w M' D (a.eval x)| .S=>oZ true β st.gens w M' D (a.eval x))→eH P B st a w β M' o (.ptr sp k g 0) [(sp,k,⟨g,.cells (cellsOf D) 0 true⟩)]:=by
   intro M' D Z KJ sp k g J ht
   have K:aq β st.gens w M' D (a.eval x):=by
    grind [oZ.toV]
   obtain⟨U,c2⟩:=pc K KJ
   have F:=au.length _ _ U
   refine Fy (cv:= .pointer (some ⟨w.heap.size,0,none⟩)) ?_ (wK Z t (a.eval x).cells (cellsOf D) true sp k g J (by
    rw[uI F]
    cases sp
    ·exact U
    ·exact fun bf G' p q=>(pc (ht bf G' p q) KJ).1) c2 (by rw[F];simp)) ?_
   ·simp[execOp,X,Instr.box,newVar,newRow]
   ·simp[aq,bX,eP]
  split at r
  ·simp only[Q.run_bind]at r
   cases N:(fz true aL (st.rho H)).run st.get st.sh.length with
   |none=>simp[N]at r
   |some p=>
    obtain⟨D,us⟩:=p
    simp only[N,Option.bind_some]at r
    split at r
    ·rename_i V
     simp at V
     obtain⟨rfl,O⟩:=V
     obtain⟨sp,k,g,rfl,rfl,J,hgs⟩:=jX r
     obtain⟨M',q1,q2,q3,W,q5⟩:=xR true st aL (st.rho H) B st w β M _ D [] _ (Fz.refl st) h Y N
     exact eH.less q3 (I M' D q1 O sp k g J (by cases sp;exact W.toV;exact W))
    ·simp[Q.run]at r
  grind [jX]
omit ep in
theorem VC{d:Nat}{sh:Bool}{t:TypeId}(D:o.op= .makeMap t none)(r:(bC d st.rho (.mkmap sh)).run st.get st.sh.length=some (.val v ups)):eH P B st a w β M o v ups:=by
 simp only[bC]at r
 obtain⟨sp,k,g,rfl,rfl,F,H⟩:=jX r
 refine Fy (ext:=0) (cv:= .map (some w.heap.size)) (o':= .map #[] 0) ?_ (Vt h sp k g F (.map #[] 0) 0 (.map [] [] false) ?_) ?_
 ·simp[execOp,D,Instr.makeMap]
 ·unfold ev
  simp only[bX]
  exact⟨#[],0,by rw[heap_alloc,if_pos rfl],MapKept.stamped_empty 0,by simp[PList],by simp[PList],fun _ _=>Or.inr (by trivial)⟩
 ·simp[aq,bX,eP]
theorem acK{d:Nat}{sh:Bool}{t e:TypeId}{l c:Operand}{N:aX}{i:TypeInfo}{z:T}(ho:o.op= .makeSlice t l c)(ht:P.underlying t=some (.slice e))(hi:P.info? e=some i)(hz:nX P e=some z)(hl:fm l=some N)(O:Fq l c=true)
  (Fx:noTup z=true) (K:i.size=(cellsOf z).length) (h0:i.size≠0)
  (F:(bC d st.rho (.mksl (cellsOf z) i.bytes N sh)).run st.get st.sh.length=some (.val v ups)):eH P B st a w β M o v ups:=by
 have Z:=ep l N hl
 have ec:a.eval c=a.eval l:=by
  unfold Fq at O
  grind
 simp only[bC]at F
 split at F
 ·rename_i n en
  obtain⟨k0,m,em,hm,rfl⟩:=ji en
  rw[em]at Z
  have el:=Z.int
  split at F
  ·rename_i fZ
   simp at fZ
   obtain⟨U,NB⟩:=fZ
   obtain⟨sp,k,g,rfl,rfl,hg,hgs⟩:=jX F
   obtain⟨i',r,V,z2,z3⟩:=uE hz
   rw[hi]at V;simp at V;subst V
   obtain⟨c1,c2⟩:=uF (w:=w) (M:=M) (lW z3) Fx
   have H:=PList.length _ _ c1
   have W:r.cells.size=i.size:=by rw[K,H];simp
   have X:=Bb r.cells m.toNat zO
   have Y:roomy=1099511627776:=rfl
   rw[Y]at U NB
   have VA:IntKind.i64.wrap m=m:=by
    simp[IntKind.wrap,IntKind.bits,IntKind.signed];omega
   have I:((Array.range (m.toNat*i.size)).map (fun j=>r.cells[j%r.cells.size]!)).size=m.toNat*i.size:=xv
   refine Fy (cv:= .slice (some ⟨w.heap.size,0,none⟩) m.toNat m.toNat) ?_ (wK h e ((Array.range (m.toNat*i.size)).map (fun j=>r.cells[j%r.cells.size]!)) (repl (cellsOf z) m.toNat) (SN (cellsOf z)) sp k g hg ?_ (Bc c2 _) ?_) ?_
   ·have J:(i.bytes:Int)*m=((m.toNat*i.bytes:Nat):Int):=by rw[Int.natCast_mul,Int.toNat_of_nonneg hm,Int.mul_comm]
    have:=C5 (P:=P) (w:=w) (k:=k0) ht hi z2 hm VA (by rw[J];omega) zO
    simp[execOp,ho,ec,el,this]
   ·have D:PList w M (repl (cellsOf z) m.toNat) (((Array.range (m.toNat*i.size)).map (fun j=>r.cells[j%r.cells.size]!)).toList.take (repl (cellsOf z) m.toNat).length):=by
     rw[uH,←K,←W,X]
     have:=PList.repl c1 m.toNat
     rw[uI]
     ·exact this
     ·rw[uH];simp
    cases hb:SN (cellsOf z)with
    |false=>exact D
    |true=>
     cases sp with
     |L=>exact PList.toV β st.gens _ _ D
     |S=>exact fun bf G' _ _=>PList.toV bf G' _ _ D
   ·rw[I,uH,K];exact Nat.le_refl _
   ·simp only[aq,bX,eP]
    refine⟨by simp,m.toNat,rfl,Nat.le_refl _, ?_⟩
    rw[I,K];simp
  ·simp[Q.run]at F
 ·simp[Q.run]at F
end
end Go.Ev
namespace Go.Ev
open Go
theorem lG(st:St): ∀(us:List Up) (sp:Sp) (k:Nat),jU us sp k=false→(st.ups us).get sp k=st.get sp k:=by
 intro us
 induction us generalizing st with
 |nil=>intro sp k _;rfl
 |cons u us ih=>
  grind [jU,Bool.or_eq_false_iff,St.ups,fF]
theorem aiM(st:St)(u:Up):(st.up u).fr=st.fr:=by obtain⟨sp,k,e⟩:=u;cases sp <;> rfl
theorem FA(st:St): ∀(us:List Up),(st.ups us).fr=st.fr:=by
 intro us
 induction us generalizing st with
 |nil=>rfl
 |cons u us ih=>grind [St.ups,aiM]
theorem xW: ∀{D:List (Nat×Operand)} {r:List (Nat×aX)},rQ D=some r→D.length=r.length∧ ∀(j i:Nat) (x:Operand) (F:Nat) (y:aX),D[j]? =some (i,x)→r[j]? =some (F,y)→F=i∧fm x=some y
 | [],r,h=>by grind [rQ]
 |(H,x0)::D,r,h=>by
  simp only[rQ]at h
  split at h
  ·rename_i y I h2 h3
   simp at h;subst h
   obtain⟨a1,a2⟩:=xW h3
   grind
  ·cases h
theorem Ih{w:World}{M:aG}{place:Nat→Option (Nat×Nat)}: ∀(parts:List (Nat×Value)) (F:List (Nat×List T)) (H:List T) (D:Array Value) (rs:List T),
  PList w M H D.toList→H.all single=true→parts.length=F.length→(∀(j i:Nat) (cv:Value) (off:Nat) (ts:List T),parts[j]? =some (i,cv)→F[j]? =some (off,ts)→place i=some (off,ts.length)∧PList w M ts cv.cells.toList∧ts.all single=true)→
  mW H F=some rs→ ∃rc,Instr.fill place D parts=some rc∧PList w M rs rc.toList∧rs.all single=true∧rs.length=H.length
 | [],F,H,D,rs,J,hs,r,K,I=>by
   grind [mW,Instr.fill]
 |(i,cv)::parts,F,H,D,rs,J,hs,r,K,I=>by
  cases F with
  |nil=>simp at r
  |cons p F=>
   obtain⟨off,ts⟩:=p
   simp only[mW]at I
   split at I
   ·rename_i O
    obtain⟨W,N,U⟩:=K 0 i cv off ts rfl rfl
    have A8:=PList.length _ _ N
    have KH:=PList.length _ _ J
    have X:cv.cells.size=ts.length:=by rw[A8];simp
    have V:D.size=H.length:=by rw[KH];simp
    have hc: ¬((cv.cells.size≠ts.length||off+cv.cells.size>D.size)=true):=by
     grind
    have e:(cv.cells.zipIdx.foldl (fun(cs:Array Value) (p:Value×Nat)=>cs.setIfInBounds (off+p.2) p.1) D).toList=splice D.toList off cv.cells.toList:=by
     have:=wI off cv.cells.toList 0 D
     grind [Array.toList_zipIdx]
    obtain⟨rc,Y,Z,r3,r4⟩:=Ih parts F (splice H off ts) (cv.cells.zipIdx.foldl (fun(cs:Array Value) (p:Value×Nat)=>cs.setIfInBounds (off+p.2) p.1) D) rs
     (by rw[e];exact PList.splice J N) (pd hs U) (by simpa using r) (fun j i cv off ts a b=>K (j+1) i cv off ts (by simpa using a) (by simpa using b)) I
    grind [df,Instr.fill]
   ·cases I
theorem Bd{P:Program}{w:World}{t e:TypeId}{len n:Nat}{i:TypeInfo}{H:Value}{parts:Array (Nat×Value)}{rc:Array Value}(I:P.underlying t=some (.slice e))(hi:P.info? e=some i)(K:i.size=n)(N:i.zero=some H)(O:len*n≤16777216)
  (DP:Instr.fill (fun j=>some (j*n,n)) ((Array.range (len*n)).map (fun j=>H.cells[j%H.cells.size]!)) parts.toList=some rc):
  (Instr.buildSlice t len parts).run P w= .ok (.slice (some ⟨w.heap.size,0,none⟩) len len) (w.alloc (.cells rc e)):=by
 have D: ¬(len*n>2 ^ 24):=zO
 have F:(sizeOf e).run P w= .ok n w:=by simp[sizeOf,typeInfo,hi,K]
 have r:(zeroValue e).run P w= .ok H w:=by simp[zeroValue,typeInfo,hi,N]
 unfold Instr.buildSlice
 by_cases jY:len*n=0
 ·have J: ∀f:Nat→Value,(Array.range (len*n)).map f= #[]:=by
   grind
  rw[J]at DP
  simp only[Sem.run_bind,run_underlying I,Result.andThen_ok,F,if_neg D,if_pos jY,Sem.run_pure,J,DP]
  simp[newRow]
 ·simp only[Sem.run_bind,run_underlying I,Result.andThen_ok,F,if_neg D,if_neg jY,Sem.run_pure,r,DP]
  simp[newRow]
section
variable{P:Program}{B:fA}{st:St}{a:Act}{w:World}{β:aV}{M:aG}{o:Oper}{v:T}{ups:List Up}
variable(ep:kH β st.gens w M st.rho a.eval)(h:bh B st w β M)
theorem Tr.fz{r:St}{M':aG}(D:Fz st r)(hs: ∀b x,M' b x→M b x):Tr st w β M r w β M':=
 ⟨dz hs,fun _ _ _ _=>rfl,fun sp k=>by rw[D.gens];exact Nat.le_refl _⟩
include ep h
theorem akX{d nx:Nat}{t e:TypeId}{len:Nat}{F:Array (Nat×Operand)}{r:List (Nat×aX)}{z:T}{n:Nat}(ho:o.op= .buildSlice t len F)(ht:P.underlying t=some (.slice e))(hz:nX P e=some z)(K:fi P e=some n)(hr:rQ F.toList=some r)
  (Fx:noTup z=true) (N:n=(cellsOf z).length) (h0:n≠0) (Ii:len*n≤16777216)
  (D:(bC d st.rho (.bsl (cellsOf z) len r)).run st.get nx=some (.val v ups)):eH P B st a w β M o v ups:=by
 simp only[bC,Q.run_bind]at D
 cases O:(bn (Ev.fz false aL) (r.map fun p=>st.rho p.2)).run st.get nx with
 |none=>simp[O]at D
 |some p=>
  obtain⟨ts,us⟩:=p
  simp only[O,Option.bind_some]at D
  split at D
  ·rename_i bA
   split at D
   ·rename_i cs hf
    simp[Q.run]at D;obtain⟨rfl,rfl⟩:=D
    obtain⟨g1,g2⟩:=xW hr
    have qv:au β st.gens w M (r.map fun p=>st.rho p.2) (F.toList.map fun p=>a.eval p.2):=by
     have gen: ∀(H:List (Nat×Operand)) (rs:List (Nat×aX)),H.length=rs.length→(∀(j i:Nat) (x:Operand) (J:Nat) (y:aX),H[j]? =some (i,x)→rs[j]? =some (J,y)→J=i∧fm x=some y)→au β st.gens w M (rs.map fun p=>st.rho p.2) (H.map fun p=>a.eval p.2):=by
      intro H
      induction H with
      |nil=>grind [au]
      |cons q H ih=>
       intro rs hl hg
       cases rs with
       |nil=>simp at hl
       |cons rr rs=>
        simp only[List.map_cons,au]
        exact⟨_,_,rfl,ep _ _ (hg 0 q.1 q.2 rr.1 rr.2 rfl rfl).2,ih rs (by simpa using hl) (fun j i x J y a b=>hg (j+1) i x J y (by simpa using a) (by simpa using b))⟩
     grind
    obtain⟨M',q1,q2,q3,q4,q5,q6⟩:=ki (fun t=>xR false st aL t) _ B st w β M _ ts us nx (Fz.refl st) h qv O
    have U:PList w M' ts (F.toList.map fun p=>a.eval p.2):=q4
    obtain⟨i,V,z1,z2,z3⟩:=uE hz
    obtain⟨c1,c2⟩:=uF (w:=w) (M:=M') (lW z3) Fx
    have W:=PList.length _ _ c1
    have X:i.size=n:=by unfold fi at K;rw[z1]at K;simpa using K
    have I:V.cells.size=n:=by rw[N,W];simp
    have Y:=Bb V.cells len zO
    rw[I]at Y
    have Z:PList w M' (repl (cellsOf z) len) ((Array.range (len*n)).map (fun j=>V.cells[j%n]!)).toList:=by
     grind [PList.repl]
    obtain⟨rc,r1,r2,r3,r4⟩:=Ih (place:=fun i=>some (i*n,n)) (F.toList.map fun p=>(p.1,a.eval p.2)) _ (repl (cellsOf z) len) _ cs Z (Bc c2 len) (by simp[g1,q6]) (by
     intro j i cv off tt b1 b2
     rw[List.getElem?_map,Option.map_eq_some_iff]at b1
     obtain⟨⟨i1,x⟩,c3,c4⟩:=b1
     simp at c4;obtain⟨rfl,rfl⟩:=c4
     rw[List.getElem?_zip_eq_some]at b2
     obtain⟨b3,b4⟩:=b2
     rw[List.getElem?_map,Option.map_eq_some_iff]at b3 b4
     obtain⟨⟨i2,y⟩,d1,d2⟩:=b3
     obtain⟨tv,d3,d4⟩:=b4
     obtain⟨e1,e2⟩:=g2 j i1 x i2 y c3 d1
     subst e1
     simp at d2
     obtain⟨cv',f1,f2⟩:=U.get d3
     rw[List.getElem?_map,c3]at f1
     simp at f1;subst f1
     have Ij:=(List.all_eq_true.1 bA) _ (List.mem_of_getElem? d3)
     simp at Ij
     obtain⟨k1,k2⟩:=uF f2 Ij.2
     subst d4
     exact⟨by rw[Ij.1,←N,←d2,N],k1,k2⟩) hf
    obtain⟨p1,p2⟩:=akE q1 (.cells rc e)
    refine⟨_,.slice (some ⟨w.heap.size,0,none⟩) len len,w.alloc (.cells rc e),β,M', ?_,.inl rfl,p1,(Tr.fz q2 q3).trans p2 (Nat.le_refl _),by show _≤(w.heap.push _).size;simp, ?_⟩
    ·have:=Bd (P:=P) (w:=w) (t:=t) (e:=e) (len:=len) (n:=n) (parts:=F.map fun(i,x)=>(i,a.eval x)) (rc:=rc) ht z1 X z2 Ii (by rw[I];simpa using r1)
     simp[execOp,ho,this]
    ·simp only[aq,PRel]
     refine⟨w.heap.size,0,len,none,rfl,Nat.le_refl _,fun _=>rfl,.inl rfl, ?_⟩
     have Hw:=PList.length _ _ r2
     refine PCells.of (c:=rc) (el:=e) (fz:=(0,0)) (by rw[heap_alloc,if_pos rfl]) _ _ ?_ ?_ r3
     ·rw[List.drop_zero,uI Hw];exact PList.mono p2.keep _ _ r2
     ·intro x _ _ hmx
      exact Nat.lt_irrefl _ (q1.mlt _ _ hmx)
   ·simp[Q.run]at D
  ·simp[Q.run]at D
end
end Go.Ev
namespace Go.Ev
open Go
theorem lj{w:World}{g:Nat}{r cs:Array Value}{t:TypeId}{fr:Nat×Nat}(D:w.heap[g]? =some (.cells r t fr)):w.setRow g cs=setBlock w g (.cells cs t fr):=by
 unfold World.setRow setBlock
 congr 1
 grind
theorem aq.one{β:aV}{G:Sp→Nat→Nat}{w:World}{M:aG}{t:T}{cv:Value}(h:aq β G w M t cv)(hs:single t=true):cv.oneCell'=true:=by
 cases t <;> simp[single]at hs <;> simp only[aq,PRel]at h
 all_goals first
  |(subst h;rfl)
  |(obtain⟨_,rfl,_⟩:=h;rfl)
  |(obtain⟨_,_,rfl,_⟩:=h;rfl)
  |(obtain⟨_,_,_,rfl,_⟩:=h;rfl)
  |(obtain⟨_,_,_,_,rfl,_⟩:=h;rfl)
  |(obtain⟨_,rfl⟩:=h;rfl)
theorem au.one{β:aV}{G:Sp→Nat→Nat}{w:World}{M:aG}: ∀{ts:List T} {r:List Value},au β G w M ts r→ts.all single=true→ ∀v∈r,v.oneCell'=true
 | [],r,h,_=>by grind [au]
 |t::ts,r,h,hs=>by
  simp only[au]at h
  obtain⟨u,us,rfl,h1,h2⟩:=h
  simp only[List.all_cons,Bool.and_eq_true]at hs
  intro v hv
  simp at hv
  rcases hv with rfl|hv
  ·exact h1.one hs.1
  ·exact au.one h2 hs.2 v hv
theorem acL(l r:List Value)(k:Nat)(hk:k+r.length≤l.length)(j:Nat):(l.take k++r++l.drop (k+r.length))[j]? =(splice l k r)[j]? :=by
 rw[fu]
 grind
theorem Be(l r:List Value)(k:Nat)(hk:k+r.length≤l.length):l.take k++r++l.drop (k+r.length)=splice l k r:=by
 apply List.ext_getElem?;intro j;exact acL l r k hk j
section
variable{P:Program}{B:fA}{st:St}{a:Act}{w:World}{β:aV}{M:aG}{o:Oper}{v:T}{ups:List Up}
theorem uJ(h:bh B st w β M){sp:Sp}{k g wm:Nat}{cs:List T}{bx:Bool}(U:st.get sp k=⟨g,.cells cs wm bx⟩)(r:Nat)(V:g≤r){c:Array Value}{el:TypeId}
  (W:w.heap[(β sp k g).blk]? =some (.cells c el (0,0))) (off:Nat) (D:List Value) (KK:List T) (Ik:wm≤off) (Il:off+D.length≤(β sp k g).ext) (hle:wm≤KK.length) (X:KK.length≤(β sp k g).ext) (hs:KK.all single=true)
  (hl:kG sp bx β st.gens w M KK ((splice (c.toList.drop (β sp k g).off) off D).take KK.length)):
  bh B (st.up (sp,k,⟨r,.cells KK wm bx⟩)) (setBlock w (β sp k g).blk (.cells (splice c.toList ((β sp k g).off+off) D).toArray el)) (iQ β sp k r (β sp k g)) M∧
  Tr st w β M (st.up (sp,k,⟨r,.cells KK wm bx⟩)) (setBlock w (β sp k g).blk (.cells (splice c.toList ((β sp k g).off+off) D).toArray el)) (iQ β sp k r (β sp k g)) M:=by
 have Y:st.gens sp k=g:=by show(st.get sp k).g=g;rw[U]
 have SQ:live (st.get sp k):=by rw[U];trivial
 have Z:=h.obj sp k
 rw[U]at Z
 unfold ev at Z
 obtain⟨c0,el0,fz0,h1,h2,h3,h4,h5,h6,h7,h8⟩:=Z
 dsimp only at h1 h2 h3 h4 h6
 rw[W]at h1
 simp at h1
 obtain⟨rfl,rfl,rfl⟩:=h1
 have K:=mZ W
 have hk:dX w M (setBlock w (β sp k g).blk (.cells (splice c.toList ((β sp k g).off+off) D).toArray el)) M:=by
  refine⟨fun b x u I J=> ?_,fun b es cl I J=> ?_,fun _ _ _ h=>h⟩
  ·by_cases N:b=(β sp k g).blk
   ·subst N
    unfold World.cell? at I ⊢
    rw[W]at I
    rw[dG,if_pos ⟨rfl,K⟩]
    simp at I ⊢
    rw[fu,if_neg]
    ·simpa using I
    ·rintro⟨q1,q2,q3⟩
     apply J
     have:=h6 (x-(β sp k g).off) zO zO
     rwa [show(β sp k g).off+(x-(β sp k g).off)=x by omega]at this
   ·rw[jv (w:=w) (by rw[dG,if_neg (fun e=>N e.1)])];exact I
  grind [dG]
 have VD: ∀F k' H,H≤st.gens F k'→iQ β sp k r (β sp k g) F k' H=β F k' H:=by
  grind [bX,uA]
 have hG: ∀F k',st.gens F k'≤(st.up (sp,k,⟨r,.cells KK wm bx⟩)).gens F k':=by
  intro F k';rw[eP];split
  ·grind
  ·grind
 have O:=Nr (M':=M) h sp k r (.cells KK wm bx) SQ (by rw[Y];exact V) (.cells (splice c.toList ((β sp k g).off+off) D).toArray el) (fun _ _ J=>J) (fun _ _ _ J=>J) (by rw[Y];exact hk) (h.base SQ)
 rw[Y]at O
 refine O ?_
 unfold ev
 simp only[bX]
 refine⟨_,el,(0,0),by rw[dG,if_pos ⟨rfl,K⟩],by simp[df];omega,X,rfl, ?_,h6,hs,by omega⟩
 have awx:(splice c.toList ((β sp k g).off+off) D).drop (β sp k g).off=splice (c.toList.drop (β sp k g).off) off D:=by
  apply List.ext_getElem?
  grind [fu,List.length_drop]
 simp only[List.toList_toArray]at awx ⊢
 grind [kG.mono]
variable(ep:kH β st.gens w M st.rho a.eval)(h:bh B st w β M)
include h
omit h in
theorem DQ{M':aG}{us:List Up}{t:TypeId}{n:Nat}{x y:Operand}{sp:Sp}{k g off wm:Nat}{cs:List T}{bx:Bool}{ts:List T}(Y:o.op= .store t x y)(Z:fi P t=some n)(U:bh B (st.ups us) w β M')(J:Tr st w β M (st.ups us) w β M')
  (hx:a.eval x= .pointer (some ⟨(β sp k g).blk,(β sp k g).off+off,none⟩)) (V:(st.ups us).get sp k=⟨g,.cells cs wm bx⟩) (Ik:wm≤off) (hle:off+n≤cs.length) (W:ts.length=n) (hs:ts.all single=true)
  (F:kG sp bx β (st.ups us).gens w M' ts (a.eval y).cells.toList):
  eH P B st a w β M o ba (us++ [(sp,k,⟨g,.cells (splice cs off ts) wm bx⟩)]):=by
 have K:=U.obj sp k
 rw[V]at K
 unfold ev at K
 obtain⟨c,el,fz,h1,h2,h3,h4,h5,h6,h7,h8⟩:=K
 dsimp only at h1 h2 h3 h4 h5 h6
 subst h4
 have D:au β (st.ups us).gens w M' ts (a.eval y).cells.toList:=F.toV
 have N:=au.length _ _ D
 have VE:=au.one D hs
 have H:=run_storeCells_at P (β sp k g).blk ((β sp k g).off+off) el (a.eval y).cells.toList 0 c w h1 (by simp at N ⊢; omega) VE
 rw[lj h1]at H
 simp only[Nat.add_zero]at H
 rw[Be _ _ _ (by simp at N ⊢; omega)]at H
 have r:=uJ U V g (Nat.le_refl _) h1 off (a.eval y).cells.toList (splice cs off ts) Ik zO (by rw[df];omega) (by rw[df];exact h3) (pd h7 hs) (by
  rw[df]
  have VF:(splice (c.toList.drop (β sp k g).off) off (a.eval y).cells.toList).take cs.length=splice ((c.toList.drop (β sp k g).off).take cs.length) off (a.eval y).cells.toList:=by
   apply List.ext_getElem?
   intro j
   rw[List.getElem?_take,fu,fu,List.getElem?_take,List.length_take]
   by_cases I:j<cs.length
   ·rw[if_pos I,if_pos I]
    by_cases hc:off≤j∧j<off+(a.eval y).cells.toList.length∧j<(c.toList.drop (β sp k g).off).length
    ·rw[if_pos hc,if_pos zO]
    ·rw[if_neg hc,if_neg zO]
   ·rw[if_neg I,if_neg I,if_neg zO]
  rw[VF]
  cases bx
  ·exact PList.splice h5 F
  ·cases sp
   ·exact au.splice h5 F
   ·exact fun X G' p q=>au.splice (h5 X G' p q) (F X G' p q))
 rw[n4]at r
 refine⟨.skip,undef,setBlock w (β sp k g).blk (.cells (splice c.toList ((β sp k g).off+off) (a.eval y).cells.toList).toArray el),β,M', ?_,.inr ⟨rfl,rfl⟩, ?_, ?_,by rw[eF];exact Nat.le_refl _, ?_⟩
 ·have O:(a.eval y).cells.size=n:=by simp at N;omega
  simp[execOp,Y,hx,Instr.storeAt,Instr.sureAddr,storeVar,iv Z,O,H]
 ·rw[ed];exact r.1
 ·rw[ed];exact J.trans r.2 (Nat.le_refl _)
 ·simp[aq,ba,undef,au]
include ep
theorem awy{d:Nat}{t:TypeId}{n:Nat}{x y:Operand}{K F:aX}(V:o.op= .store t x y)(hx:fm x=some K)(hy:fm y=some F)(W:fi P t=some n)
  (r:(bC d st.rho (.st K F n)).run st.get st.sh.length=some (.val v ups)):eH P B st a w β M o v ups:=by
 have J:=ep x K hx
 have X:=ep y F hy
 simp only[bC,nI]at r
 split at r
 ·simp[Q.run]at r
 ·rename_i hc
  simp at hc
  obtain⟨H,KJ⟩:=hc
  split at r
  ·rename_i sp k g off ex
   rw[ex]at J
   simp only[aq]at J
   simp only[Q.run]at r
   split at r
   ·rename_i Y
    generalize Z:st.get sp k=e at*
    obtain⟨ge,ob⟩:=e
    dsimp only at Y;subst Y
    cases ob with
    |none=>simp[Q.run]at r
    |map _ _ _=>simp[Q.run]at r
    |cells cs wm bx=>
     dsimp only at r
     split at r
     ·rename_i Ik
      simp at Ik
      split at r
      ·rename_i Lf
       simp at Lf
       obtain⟨rfl,rfl⟩:=Lf
       simp[Q.run]at r;obtain⟨rfl,rfl⟩:=r
       obtain⟨k1,k2⟩:=pc X KJ
       exact DQ (us:= []) V W h (Tr.refl _ _ _ _) J.2 Z Ik.1 Ik.2 H k2 k1
      ·rename_i Lf
       simp only[Q.run_bind]at r
       cases N:(fz (bx&&sp== .S) aL (st.rho F)).run st.get st.sh.length with
       |none=>simp[N]at r
       |some p=>
        obtain⟨t',us⟩:=p
        simp only[N,Option.bind_some]at r
        split at r
        ·simp[Q.run]at r
        ·rename_i hh
         simp at hh
         obtain⟨⟨O,D⟩,U⟩:=hh
         simp[Q.run]at r;obtain⟨rfl,rfl⟩:=r
         obtain⟨M',q1,q2,q3,I,q5⟩:=xR _ st aL (st.rho F) B st w β M _ t' us _ (Fz.refl st) h X N
         have NC:(st.ups us).get sp k=⟨ge,.cells cs wm bx⟩:=by rw[lG st us sp k O];exact Z
         refine DQ (us:=us) V W q1 (Tr.fz q2 q3) J.2 NC Ik.1 Ik.2 U ?_ ?_
         ·exact(pc I.toV D).2
         ·cases bx with
          |false=>
           simp only[Bool.false_and]at I
           exact(uF I D).1
          |true=>
           cases sp with
           |L=>simp at Lf
           |S=>
            simp only[Bool.true_and,beq_self_eq_true]at I
            rw[q2.gens]
            exact fun bf G' p q=>(pc (I bf G' p q) D).1
     ·simp[Q.run]at r
   ·simp[Q.run]at r
  ·simp[Q.run]at r
end
end Go.Ev
namespace Go.Ev
open Go
section
variable{P:Program}{B:fA}{st:St}{a:Act}{w:World}{β:aV}{M:aG}{o:Oper}{v:T}{ups:List Up}
variable(ep:kH β st.gens w M st.rho a.eval)(h:bh B st w β M)
theorem Lh{t U et:TypeId}{ek:EK}{m:Option Nat}{H:Array MapEntry}{F:Nat}{ks vs:List T}{k z r:T}{kv V:Value}{N:Bool}(ht:P.underlying t=some (.map U et))(hk:keyOf P U=some ek)
  (hm:(m=none∧H= #[])∨ ∃I,m=some I∧w.heap[I]? =some (.map H F)) (O:PList w M ks (H.toList.map (·.key))) (W:PList w M vs (H.toList.map (·.val))) (K:aq β st.gens w M k kv) (hz:(zeroValue et).run P w= .ok V w) (hzr:PRel w M z V)
  (J:jb ek ks vs k z N=some r): ∃cv,(Instr.lookup t (.map m) kv N).run P w= .ok cv w∧aq β st.gens w M r cv:=by
 unfold jb at J
 split at J
 ·cases J
 ·rename_i Nz
  simp at Nz
  have DN:(Instr.checkKey H.isEmpty 10000 U kv).run P w= .ok () w:=xU (P:=P) hk K Nz 9998 H.isEmpty
  have X: ∀D,(Instr.findKey U kv H.toList).run P w= .ok D w→(Instr.lookup t (.map m) kv N).run P w=
    .ok (match D with|some (_,cv)=>if N then .tuple #[cv,.bool true]else cv|none=>if N then .tuple #[V,.bool false]else V) w:=by
   intro D C6
   unfold Instr.lookup
   rcases hm with⟨rfl,rfl⟩|⟨I,rfl,hb⟩
   ·simp only[Sem.run_bind,run_underlying ht,Result.andThen_ok,Sem.run_pure,DN,C6]
    cases D with
    |none=>simp[hz]
    |some p=>simp
   ·have yA:(getObj I).run P w= .ok (.map H F) w:=by simp[getObj,Sem.run,hb]
    simp only[Sem.run_bind,run_underlying ht,Result.andThen_ok,Sem.run_pure,yA,DN,C6]
    cases D with
    |none=>simp[hz]
    |some p=>simp
  split at J
  ·rename_i i Y
   obtain⟨D,r1,Z⟩:=pb (P:=P) hk K H.toList ks _ O Y
   obtain⟨e,e1,e2⟩:=Z
   simp only[Option.map_eq_some_iff]at J
   obtain⟨v',hv',rfl⟩:=J
   obtain⟨cv,c1,c2⟩:=W.get hv'
   grind [aq,au,PRel.toV]
  ·rename_i Y
   simp at J;subst J
   obtain⟨D,r1,Z⟩:=pb (P:=P) hk K H.toList ks _ O Y
   refine⟨_,X D r1, ?_⟩
   have:D=none:=Z
   grind [aq,au,PRel.toV]
  ·cases J
include ep h
theorem awB{d nx:Nat}{t Z et:TypeId}{m k:Operand}{X k':aX}{U:Bool}{V:EK}{z:T}(ho:o.op= .lookup t m k U)(hm:fm m=some X)(hk:fm k=some k')(ht:P.underlying t=some (.map Z et))(Y:keyOf P Z=some V)(hz:nX P et=some z)
  (F:(bC d st.rho (.lk V X k' z U)).run st.get nx=some (.val v ups)):eH P B st a w β M o v ups:=by
 have H:=ep m X hm
 have vk:=ep k k' hk
 obtain⟨zv,z1,z2⟩:=DO hz w
 have N: ∀(W:Option Nat) (I:Array MapEntry) (D:Nat) (ks J:List T) (r:T),a.eval m= .map W→((W=none∧I= #[])∨ ∃K,W=some K∧w.heap[K]? =some (.map I D))→PList w M ks (I.toList.map (·.key))→PList w M J (I.toList.map (·.val))→
   jb V ks J (st.rho k') z U=some r→eH P B st a w β M o r []:=by
  intro W I D ks J r e1 e2 e3 e4 e5
  obtain⟨cv,r1,r2⟩:=Lh (P:=P) (β:=β) (st:=st) ht Y e2 e3 e4 vk z1 (z2 w M) e5
  exact be h (cv:=cv) (by simp[execOp,ho,e1,r1]) r2
 simp only[bC]at F
 split at F
 ·rename_i e
  rw[e]at H;simp only[aq]at H
  split at F
  ·rename_i Nz
   simp[Q.run]at F;obtain⟨rfl,rfl⟩:=F
   exact N none #[] 0 [] [] _ H (.inl ⟨rfl,rfl⟩) (by simp[PList]) (by simp[PList]) (by simp[jb,Nz,iD])
  ·simp[Q.run]at F
 ·rename_i ks J e
  rw[e]at H;simp only[aq,PRel]at H
  obtain⟨K,I,D,e1,e2,_,_,e3,e4⟩:=H
  cases O:jb V ks J (st.rho k') z U with
  |none=>simp[O,Ev.val,Q.run]at F
  |some r=>
   simp[O,Ev.val,Q.run]at F;obtain⟨rfl,rfl⟩:=F
   exact N _ I D ks J _ e1 (.inr ⟨K,rfl,e2⟩) e3 e4 O
 ·rename_i sp kk g e
  rw[e]at H;simp only[aq]at H
  simp only[Q.run]at F
  split at F
  ·rename_i hg
   have yy:=h.obj sp kk
   generalize he:st.get sp kk=en at*
   obtain⟨ge,ob⟩:=en
   dsimp only at hg;subst hg
   cases ob with
   |none=>simp[Q.run]at F
   |cells _ _ _=>simp[Q.run]at F
   |map ks J f=>
    dsimp only at F
    unfold ev at yy
    obtain⟨I,D,e2,_,e3,e4,_⟩:=yy
    cases O:jb V ks J (st.rho k') z U with
    |none=>simp[O,Ev.val,Q.run]at F
    |some r=>
     simp[O,Ev.val,Q.run]at F;obtain⟨rfl,rfl⟩:=F
     exact N _ I D ks J _ H.2 (.inr ⟨_,rfl,e2⟩) e3 e4 O
  ·simp[Q.run]at F
 ·simp[Q.run]at F
omit ep h
theorem PList.set{ts:List T}{r:List Value}(i:Nat){t:T}{cv:Value}(h:PList w M ts r)(D:PRel w M t cv):PList w M (ts.set i t) (r.set i cv):=by
 induction ts generalizing r i with
 |nil=>grind [PList]
 |cons x xs ih=>
  simp only[PList]at h
  obtain⟨u,us,rfl,h1,h2⟩:=h
  cases i with
  |zero=>grind [PList]
  |succ i=>grind [PList]
theorem sP{c:CK}{x y:T}{D F:Value}(hx:aq β st.gens w M x D)(r:aq β st.gens w M y F)(h:eX c x y=some true)(n:Nat):Instr.sameBits n F D=true:=by
 unfold eX at h
 split at h
 ·simp at h;subst h;rw[hx.bool,r.bool];simp[Instr.sameBits]
 ·split at h
  ·rename_i e;subst e;simp at h;subst h;rw[hx.int,r.int];simp[Instr.sameBits]
  ·cases h
 ·simp at h;subst h
  obtain⟨H,e1,I⟩:=hx.str
  obtain⟨J,e2,K⟩:=r.str
  rw[e1,e2]
  have:(J==H)=true:=by
   rw[beq_toListBytes,←gJ,←dI,←dI,I,K];simp
  grind [Instr.sameBits]
 ·cases h
theorem qJ: ∀{ks:List CK} {xs r:List T} {D F:List Value},au β st.gens w M xs D→au β st.gens w M r F→cz ks xs r=some true→ ∀n,D.length=F.length∧((F.zip D).all fun p=>Instr.sameBits n p.1 p.2)=true
 | [],xs,r,D,F,hx,H,h,n=>by
   cases xs <;> cases r <;> simp[cz]at h
   simp_all[au]
 |k::ks,xs,r,D,F,hx,H,h,n=>by
  cases xs with
  |nil=>grind [cz]
  |cons x xs=>
   cases r with
   |nil=>simp[cz]at h
   |cons y r=>
    simp only[au]at hx H
    obtain⟨u,us,rfl,h1,h2⟩:=hx
    obtain⟨N,I,rfl,J,Lj⟩:=H
    simp only[cz]at h
    cases hc:eX k x y with
    |none=>simp[hc]at h
    |some b=>
     cases b with
     |false=>simp[hc]at h
     |true=>
      simp only[hc]at h
      obtain⟨O,K⟩:=qJ h2 Lj h n
      simp only[List.length_cons,List.zip_cons_cons,List.all_cons,Bool.and_eq_true]
      exact⟨by omega,sP h1 J hc n,K⟩
theorem FB{r:EK}{x y:T}{F H:Value}(I:(∃c,r= .one c)∨ ∃ks,r= .flat ks)(hx:aq β st.gens w M x F)(D:aq β st.gens w M y H)(h:sy r x y=some true)(n:Nat):Instr.sameBits (n+1) H F=true:=by
 rcases I with⟨c,rfl⟩|⟨ks,rfl⟩
 ·exact sP hx D h _
 ·unfold sy at h
  split at h <;> simp_all
  rename_i xs N
  simp only[aq]at hx D
  obtain⟨O,rfl,J,_⟩:=hx
  obtain⟨U,rfl,K,_⟩:=D
  obtain⟨V,W⟩:=qJ J K h n
  simp_all[Instr.sameBits,Bool.and_eq_true]
theorem Im{D:EK}{k:T}: ∀{ks:List T} {i:Nat},iD D k ks=some (some i)→ ∃x,ks[i]? =some x∧sy D k x=some true
 | [],i,h=>by simp[iD]at h
 |x::xs,i,h=>by
  simp only[iD]at h
  split at h
  ·grind
  ·simp only[Option.map_eq_some_iff]at h
   obtain⟨r,h1,h2⟩:=h
   cases r with
   |none=>simp at h2
   |some j=>
    simp at h2;subst h2
    simp_all[Im]
  ·cases h
theorem xX{c:CK}{x y:T}{H I:Value}(hx:aq β st.gens w M x H)(r:aq β st.gens w M y I)(h:eX c x y=some true):H=I:=by
 unfold eX at h
 split at h
 ·simp at h;subst h;rw[hx.bool,r.bool]
 ·split at h
  ·rename_i e;subst e;simp at h;subst h;rw[hx.int,r.int]
  ·cases h
 ·simp at h;subst h
  obtain⟨D,e1,J⟩:=hx.str
  obtain⟨F,e2,K⟩:=r.str
  rw[e1,e2]
  have h3:bytesN D=bytesN F:=J.trans K.symm
  have h4:D.data.toList=F.data.toList:=(List.map_inj_right (f:=UInt8.toNat) (fun _ _ h=>UInt8.toNat_inj.1 h)).1 h3
  have h5:D=F:=ByteArray.ext (Array.toList_inj.1 h4)
  rw[h5]
 ·cases h
theorem uK: ∀{ks:List CK} {xs r:List T} {D F:List Value},au β st.gens w M xs D→au β st.gens w M r F→cz ks xs r=some true→D=F
 | [],xs,r,D,F,hx,H,h=>by
   grind [cz,au]
 |k::ks,xs,r,D,F,hx,H,h=>by
  cases xs with
  |nil=>grind [cz]
  |cons x xs=>
   cases r with
   |nil=>simp[cz]at h
   |cons y r=>
    simp only[au]at hx H
    obtain⟨u,us,rfl,h1,h2⟩:=hx
    obtain⟨K,I,rfl,J,Lj⟩:=H
    simp only[cz]at h
    cases hc:eX k x y with
    |none=>simp[hc]at h
    |some b=>
     cases b with
     |false=>simp[hc]at h
     |true=>
      simp only[hc]at h
      rw[xX h1 J hc,uK h2 Lj h]
theorem VG{r:EK}{x y:T}{F H:Value}(I:(∃c,r= .one c)∨ ∃ks,r= .flat ks)(hx:aq β st.gens w M x F)(D:aq β st.gens w M y H)(h:sy r x y=some true):F=H:=by
 rcases I with⟨c,rfl⟩|⟨ks,rfl⟩
 ·exact xX hx D h
 ·unfold sy at h
  split at h <;> simp_all
  rename_i xs N
  simp only[aq]at hx D
  obtain⟨O,rfl,J,_⟩:=hx
  obtain⟨U,rfl,K,_⟩:=D
  have:=uK J K h
  simp_all
theorem uL{c:CK}{x y:T}{v:Value}(hx:aq β st.gens w M x v)(r:aq β st.gens w M y v)(h:eX c x y=some false):False:=by
 unfold eX at h
 split at h
 ·have e:=hx.bool;rw[r.bool]at e;cases e;simp at h
 ·split at h
  ·rename_i e;subst e
   have e:=hx.int;rw[r.int]at e;cases e;simp at h
  ·cases h
 ·obtain⟨D,e1,F⟩:=hx.str
  obtain⟨H,e2,I⟩:=r.str
  grind
 ·cases h
theorem sS: ∀{ks:List CK} {xs r:List T} {v:List Value},au β st.gens w M xs v→au β st.gens w M r v→cz ks xs r=some false→False
 | [],xs,r,v,hx,D,h=>by
   grind [cz]
 |k::ks,xs,r,v,hx,D,h=>by
  cases xs with
  |nil=>grind [cz]
  |cons x xs=>
   cases r with
   |nil=>simp[cz]at h
   |cons y r=>
    simp only[au]at hx D
    obtain⟨u,us,rfl,h1,h2⟩:=hx
    obtain⟨I,F,e,H,Lj⟩:=D
    cases e
    simp only[cz]at h
    cases hc:eX k x y with
    |none=>simp[hc]at h
    |some b=>
     cases b with
     |false=>exact uL h1 H hc
     |true=>
      simp only[hc]at h
      exact sS h2 Lj h
theorem Qf{r:EK}{x y:T}{v:Value}(F:(∃c,r= .one c)∨ ∃ks,r= .flat ks)(hx:aq β st.gens w M x v)(D:aq β st.gens w M y v)(h:sy r x y=some false):False:=by
 rcases F with⟨c,rfl⟩|⟨ks,rfl⟩
 ·exact uL hx D h
 ·unfold sy at h
  split at h <;> simp_all
  rename_i xs J
  simp only[aq]at hx D
  obtain⟨K,rfl,H,_⟩:=hx
  obtain⟨N,e,I,_⟩:=D
  cases e
  exact sS H I h
theorem Bf{D:EK}{k:T}: ∀{ks:List T},iD D k ks=some none→ ∀x∈ks,sy D k x=some false
 | [],h,x,hx=>by simp at hx
 |y::H,h,x,hx=>by
  simp only[iD]at h
  split at h
  ·simp at h
  ·rename_i F
   simp only[Option.map_eq_some_iff]at h
   obtain⟨r,h1,h2⟩:=h
   cases r with
   |some j=>simp at h2
   |none=>
    rcases List.mem_cons.1 hx with rfl|hx
    ·exact F
    ·exact Bf h1 x hx
  ·cases h
theorem PList.getV{w:World}{M:aG}: ∀{ts:List T} {r:List Value},PList w M ts r→ ∀{j:Nat} {v:Value},r[j]? =some v→ ∃t,ts[j]? =some t∧PRel w M t v
 | [],r,h,j,v,D=>by grind [PList]
 |x::xs,r,h,j,v,D=>by
  simp only[PList]at h
  obtain⟨u,us,rfl,h1,h2⟩:=h
  cases j with
  |zero=>grind
  |succ j=>obtain⟨t,e1,e2⟩:=PList.getV h2 (j:=j) (v:=v) (by simpa using D);exact⟨t,by simpa using e1,e2⟩
theorem aiO(h:bh B st w β M){sp:Sp}{k g:Nat}{ks Z:List T}(N:st.get sp k=⟨g,.map ks Z false⟩)(Io:Array MapEntry)(F:Nat)(O:MapKept.Stamped Io F)(r K:List T)(hk:PList w M r (Io.toList.map (·.key)))(hv:PList w M K (Io.toList.map (·.val))):
  bh B (st.up (sp,k,⟨g,.map r K false⟩)) (setBlock w (β sp k g).blk (.map Io F)) β M∧Tr st w β M (st.up (sp,k,⟨g,.map r K false⟩)) (setBlock w (β sp k g).blk (.map Io F)) β M:=by
 have U:st.gens sp k=g:=by show(st.get sp k).g=g;rw[N]
 have SQ:live (st.get sp k):=by rw[N];trivial
 have V:=h.obj sp k
 rw[N]at V
 unfold ev at V
 obtain⟨es,W,h1,_,h2,h3,h4⟩:=V
 dsimp only at h1 h4
 have X:=mZ h1
 have D:dX w M (setBlock w (β sp k g).blk (.map Io F)) M:=by
  refine⟨fun b x u Y H=> ?_,fun b es cl Y H=> ?_,fun _ _ _ h=>h⟩
  ·by_cases I:b=(β sp k g).blk
   ·grind
   ·rw[jv (w:=w) (by rw[dG,if_neg (fun e=>I e.1)])];exact Y
  ·by_cases I:b=(β sp k g).blk
   ·simp_all
   ·grind [dG]
 have J:=Nr (M':=M) h sp k g (.map r K false) SQ (Nat.le_of_eq U) (.map Io F) (fun _ _ H=>H) (fun _ _ _ H=>H) (by rw[U];exact D) (h.base SQ)
 rw[U,n4]at J
 refine J ?_
 exact⟨Io,F,by rw[dG,if_pos ⟨rfl,X⟩],O,PList.mono D _ _ hk,PList.mono D _ _ hv,h4⟩
include ep h
theorem awC{d:Nat}{t kt et:TypeId}{m k x:Operand}{m' k' x':aX}{ek:EK}(ho:o.op= .mapUpdate t m k x)(hm:fm m=some m')(hk:fm k=some k')(hx:fm x=some x')(ht:P.underlying t=some (.map kt et))(K:keyOf P kt=some ek)
  (D:(bC d st.rho (.mu ek m' k' x')).run st.get st.sh.length=some (.val v ups)):eH P B st a w β M o v ups:=by
 have vm:=ep m m' hm
 have vk:=ep k k' hk
 have vx:=ep x x' hx
 simp only[bC]at D
 split at D
 ·rename_i sp kk g e
  rw[e]at vm;simp only[aq]at vm
  simp only[Q.run]at D
  split at D
  ·rename_i hg
   simp at hg
   obtain⟨hg,Nz⟩:=hg
   generalize he:st.get sp kk=en at*
   obtain⟨J,ob⟩:=en
   dsimp only at hg;subst hg
   split at D
   ·rename_i ks U heq
    dsimp only at heq;subst heq
    simp only[Q.run_bind]at D
    cases hz:(fz false aL (st.rho x')).run st.get st.sh.length with
    |none=>simp[hz]at D
    |some p=>
     obtain⟨t',us⟩:=p
     simp only[hz,Option.bind_some]at D
     split at D
     ·rename_i q W
      split at D
      ·simp[Q.run]at D
      ·rename_i hh
       simp at hh
       simp[Q.run]at D;obtain⟨rfl,rfl⟩:=D
       obtain⟨M',q1,q2,q3,q4,q5⟩:=xR _ st aL (st.rho x') B st w β M _ t' us _ (Fz.refl st) h vx hz
       have q4':PRel w M' t' (a.eval x):=q4
       have NC:(st.ups us).get sp kk=⟨J,.map ks U false⟩:=by rw[lG st us sp kk hh];exact he
       have yy:=q1.obj sp kk
       rw[NC]at yy
       unfold ev at yy
       obtain⟨H,clock,e2,gn,e3,e4,_⟩:=yy
       dsimp only at e2
       have r:aq β st.gens w M' (st.rho k') (a.eval k):=aq.mono (dz q3) (fun _ _ _ _=>rfl) (fun _ _=>Nat.le_refl _) _ _ vk
       have DN:(Instr.checkKey false 10000 kt (a.eval k)).run P w= .ok () w:=xU (P:=P) K r Nz 9998 false
       obtain⟨_,m9⟩:=Fw K
       have kp:PRel w M' (st.rho k') (a.eval k):=by
        generalize st.rho k'=tk at*
        cases tk <;> rcases m9 with⟨c,rfl⟩|⟨cs,rfl⟩ <;> (try (cases c)) <;> simp[isKey,Fp]at Nz
        all_goals first
         |(simp only[aq]at r;simp only[PRel];exact r;done)
         |skip
        rename_i xs
        simp only[aq]at r
        obtain⟨arr,e5,l5,s5⟩:=r
        simp only[PRel]
        refine⟨arr,e5, ?_,s5⟩
        have: ∀(cs:List CK) (xs:List T) (U:List Value),lE cs xs=true→au β st.gens w M' xs U→PList w M' xs U:=by
         intro cs
         induction cs with
         |nil=>intro xs U hc hv;cases xs <;> simp[lE]at hc;simpa only[au,PList]using hv
         |cons c cs ih=>
          intro xs U hc hv
          cases xs with
          |nil=>simp[lE]at hc
          |cons x xs=>
           simp only[lE,Bool.and_eq_true]at hc
           simp only[au]at hv;simp only[PList]
           obtain⟨u,us,rfl,w1,w2⟩:=hv
           refine⟨u,us,rfl, ?_,ih xs us hc.2 w2⟩
           cases c <;> cases x <;> simp[Fp]at hc <;> simp only[aq]at w1 <;> simp only[PRel] <;> exact w1
        exact this _ _ _ Nz l5
       have run: ∀(F:Option (Nat×Value)) (Io:Array MapEntry) (l0:Nat),(Instr.findKey kt (a.eval k) H.toList).run P w= .ok F w→
         (match F with
           |some (i,_)=>do
            let key ←Instr.keyThatStays (((H[i]?).map (fun e:MapEntry=>e.key)).getD (a.eval k)) (a.eval k)
            setObj (β sp kk J).blk (.map (H.modify i fun e=>{e with key,val:=a.eval x}) clock)
           |none=>setObj (β sp kk J).blk (.map (H.push {key:=a.eval k,val:=a.eval x,born:=clock}) (clock+1))).run P w= .ok () (setBlock w (β sp kk J).blk (.map Io l0))→
         (execOp a.eval o).run P w= .ok .skip (setBlock w (β sp kk J).blk (.map Io l0)):=by
        intro F Io l0 C6 Ip
        have:(Instr.mapUpdate t (.map (some (β sp kk J).blk)) (a.eval k) (a.eval x)).run P w= .ok () (setBlock w (β sp kk J).blk (.map Io l0)):=by
         unfold Instr.mapUpdate
         simp only[Sem.run_bind,run_underlying ht,Result.andThen_ok]
         have yA:(getObj (β sp kk J).blk).run P w= .ok (.map H clock) w:=by simp[getObj,Sem.run,e2]
         simp only[yA,Result.andThen_ok,Sem.run_bind,DN,C6]
         cases F with
         |none=>exact Ip
         |some p=>exact Ip
        simp[execOp,ho,vm.2,this]
       have Ip: ∀(Io:Array MapEntry) (c':Nat),(setObj (β sp kk J).blk (.map Io c')).run P w= .ok () (setBlock w (β sp kk J).blk (.map Io c')):=by
        intro Io c';simp[setObj,Sem.run,e2,setBlock]
       unfold lU at W
       split at W
       ·rename_i i hf
        simp at W;subst W
        obtain⟨F,r1,e,V,r3⟩:=pb (P:=P) K r H.toList ks _ e3 hf
        obtain⟨kx,X,I⟩:=Im hf
        obtain⟨kcv,N,kc2⟩:=e3.get X
        rw[List.getElem?_map,V]at N
        simp at N
        have VH:=FB (β:=β) (st:=st) m9 r (PRel.toV β st.gens _ _ kc2) I 9999
        have hei:H[i]? =some e:=by simpa using V
        simp only[Nat.zero_add]at r3
        have hkt:(Instr.keyThatStays (((H[i]?).map (fun e:MapEntry=>e.key)).getD (a.eval k)) (a.eval k)).run P w= .ok (a.eval k) w:=by
         rw[hei];simp only[Option.map_some,Option.getD_some,N]
         unfold Instr.keyThatStays
         rw[if_pos VH];rfl
        obtain⟨Y,Z⟩:=aiO q1 NC (H.modify i fun e=>{e with key:=a.eval k,val:=a.eval x}) clock (MapKept.stamped_modify gn i _ (fun _ _=>rfl) (fun e' _ O=>by
         have hh:e'=e:=by rw[hei]at O;exact(Option.some.inj O).symm
         subst hh
         exact(VG m9 r (PRel.toV β st.gens _ _ kc2) I).trans N.symm)) (ks.set i (st.rho k')) (U.set i t') (by
         have:=PList.set i e3 kp
         have e5:(H.modify i fun e=>{e with key:=a.eval k,val:=a.eval x}).toList.map (·.key)=(H.toList.map (·.key)).set i (a.eval k):=by
          apply List.ext_getElem?;intro j
          rw[Array.toList_modify,List.getElem?_map,List.getElem?_modify,List.getElem?_set,List.getElem?_map]
          by_cases hj:i=j
          ·subst hj;rw[V];simp;exact(List.getElem?_eq_some_iff.1 V).1
          ·simp[hj]
         rw[e5];exact this) (by
         have:=PList.set i e4 q4'
         have e5:(H.modify i fun e=>{e with key:=a.eval k,val:=a.eval x}).toList.map (·.val)=(H.toList.map (·.val)).set i (a.eval x):=by
          apply List.ext_getElem?;intro j
          rw[Array.toList_modify,List.getElem?_map,List.getElem?_modify,List.getElem?_set,List.getElem?_map]
          by_cases hj:i=j
          ·subst hj;rw[V];simp;exact(List.getElem?_eq_some_iff.1 V).1
          ·simp[hj]
         rw[e5];exact this)
        refine⟨.skip,undef,_,β,M',run F _ clock r1 ?_,.inr ⟨rfl,rfl⟩,by rw[ed];exact Y,by rw[ed];exact(Tr.fz q2 q3).trans Z (Nat.le_refl _),by rw[eF];exact Nat.le_refl _,by simp[aq,ba,undef,au]⟩
        subst r3
        simp only[Sem.run_bind,hkt,Result.andThen_ok]
        exact Ip _ _
       ·rename_i hf
        simp at W;subst W
        obtain⟨F,r1,V⟩:=pb (P:=P) K r H.toList ks _ e3 hf
        have:F=none:=V
        subst this
        obtain⟨Y,Z⟩:=aiO q1 NC (H.push {key:=a.eval k,val:=a.eval x,born:=clock}) (clock+1) (MapKept.stamped_push gn (fun y hy O=>by
         obtain⟨j,hj⟩:=List.getElem?_of_mem hy
         obtain⟨kx,X,I⟩:=e3.getV (j:=j) (v:=y.key) (by rw[List.getElem?_map,hj];rfl)
         rw[O]at I
         exact Qf m9 r (PRel.toV β st.gens _ _ I) (Bf hf _ (List.mem_of_getElem? X)))) (ks++ [st.rho k']) (U++ [t']) (by
         simp only[Array.toList_push,List.map_append,List.map_cons,List.map_nil]
         exact PList.append e3 (by simp only[PList];exact⟨_,_,rfl,kp,rfl⟩)) (by
         simp only[Array.toList_push,List.map_append,List.map_cons,List.map_nil]
         exact PList.append e4 (by simp only[PList];exact⟨_,_,rfl,q4',rfl⟩))
        exact⟨.skip,undef,_,β,M',run none _ (clock+1) r1 (Ip _ _),.inr ⟨rfl,rfl⟩,by rw[ed];exact Y,by rw[ed];exact(Tr.fz q2 q3).trans Z (Nat.le_refl _),by rw[eF];exact Nat.le_refl _,by simp[aq,ba,undef,au]⟩
       ·cases W
     ·simp[Q.run]at D
   ·simp[Q.run]at D
  ·simp[Q.run]at D
 ·simp[Q.run]at D
end
end Go.Ev
namespace Go.Ev
open Go
theorem DR(D:Nat): ∀(r c:Nat),c≤D+(D+768)/4→Builtin.growBy D r c≤D+(D+768)/4
 |0,c,h=>by simpa[Builtin.growBy]using h
 |r+1,c,h=>by
  simp only[Builtin.growBy]
  split
  ·exact h
  ·exact DR D r _ zO
theorem acN(FC r:Nat)(h:r<FC):Builtin.nextslicecap FC r≤2*FC+192:=by
 grind [Builtin.nextslicecap,DR]
theorem Qg{FC r bytes:Nat}(h:r<FC)(D:FC*bytes≤1099511627776)(h0:bytes≠0):Builtin.nextslicecap FC r*bytes≤281474976710656:=by
 have h1:=Nat.mul_le_mul_right bytes (acN FC r h)
 have h2:bytes≤FC*bytes:=Nat.le_mul_of_pos_left bytes zO
 grind
section
variable{P:Program}{B:fA}{st:St}{a:Act}{w:World}{β:aV}{M:aG}{o:Oper}{v:T}{ups:List Up}
theorem C7(h:bh B st w β M){sz nx n:Nat}{x:T}{cx:Value}{xs:List T}(J:aq β st.gens w M x cx)(r:(cg sz x).run st.get nx=some (n,xs)):
  ∃news:List Value,(∀w':World,w'.heap=w.heap→(Builtin.lenOf cx).run P w'= .ok n w'∧(Builtin.firstCells sz n cx).run P w'= .ok news.toArray w')∧PList w M xs news∧xs.all single=true∧xs.length=n*sz:=by
 unfold cg at r
 split at r
 ·simp[Q.run]at r;obtain⟨rfl,rfl⟩:=r
  simp_all[aq,Builtin.lenOf,Builtin.firstCells,PList]
 ·rename_i cs len ex
  split at r
  ·rename_i N
   simp[Q.run]at r;obtain⟨rfl,rfl⟩:=r
   simp only[aq,PRel]at J
   obtain⟨O,off,U,sp,rfl,h1,h2,h5,h3⟩:=J
   obtain⟨V,e1,e2,e3,e4⟩:=PCells.load (P:=P) h3
   refine⟨V,fun w' Y=>⟨by simp[Builtin.lenOf], ?_⟩,e3,e4,N⟩
   have:=run_loadCells_list (P:=P) w' ⟨O,off,sp⟩ V (fun j u F=>by
    rcases h5 with h5|h5
    ·grind [World.cell?,ew]
    ·exfalso
     have hz:len=0:=zO
     have h0:V= []:=List.length_eq_zero_iff.1 (by rw[e1,N,hz,Nat.zero_mul])
     subst h0;simp at F)
   rw[e1,N]at this
   simp[Builtin.firstCells,this]
  ·simp[Q.run]at r
 ·rename_i sp k g off len H
  split at r
  ·rename_i W
   subst W
   simp only[Q.run]at r
   split at r
   ·rename_i Z
    have yy:=h.obj sp k
    generalize he:st.get sp k=en at*
    obtain⟨K,ob⟩:=en
    dsimp only at Z;subst Z
    cases ob with
    |none=>simp[Q.run]at r
    |map _ _ _=>simp[Q.run]at r
    |cells cs wm bx=>
     cases bx with
     |true=>simp[Q.run]at r
     |false=>
      dsimp only at r
      split at r
      ·rename_i hle
       simp[Q.run]at r;obtain⟨rfl,rfl⟩:=r
       unfold ev at yy
       obtain⟨c,el,fz,h1,h2,h3,h4,h5,h6,h7,h8⟩:=yy
       dsimp only at h1 h2 h3 h5
       simp only[aq]at J
       obtain⟨q1,U,rfl,q2,q3⟩:=J
       have Qd:=PList.take (len*H) (PList.drop off h5)
       rw[List.drop_take,List.drop_drop,List.take_take]at Qd
       have X:min (len*H) (cs.length-off)=len*H:=zO
       rw[X]at Qd
       have D:((cs.drop off).take (len*H)).length=len*H:=by simp;omega
       refine⟨(c.toList.drop ((β sp k K).off+off)).take (len*H),fun w' Y=>⟨by simp[Builtin.lenOf], ?_⟩,Qd,iR h7 _ _,D⟩
       have zE:=PList.length _ _ Qd
       rw[D]at zE
       have:=run_loadCells_list (P:=P) w' ⟨(β sp k K).blk,(β sp k K).off+off,none⟩ ((c.toList.drop ((β sp k K).off+off)).take (len*H)) (fun j u F=>by
        rw[ew]
        rw[List.getElem?_take]at F
        split at F
        ·rw[List.getElem?_drop]at F
         unfold World.cell?;rw[Y,h1];simpa using F
        ·cases F)
       rw[←zE]at this
       simp[Builtin.firstCells,this]
      ·simp[Q.run]at r
   ·simp[Q.run]at r
  ·simp[Q.run]at r
 ·rename_i l
  split at r
  ·rename_i W
   subst W
   simp[Q.run]at r;obtain⟨rfl,rfl⟩:=r
   obtain⟨I,rfl,rfl⟩:=J.str
   refine⟨I.data.toList.map fun b=> .int .u8 b.toNat,fun w' _=>⟨by simp[Builtin.lenOf,gp], ?_⟩, ?_, ?_,by simp⟩
   ·have e1:(I.extract 0 I.size).data=I.data:=by
     apply Array.ext'
     rw[ByteArray.data_extract,Array.toList_extract,List.extract_eq_take_drop]
     rw[List.drop_zero]
     exact List.take_of_length_le (by show I.data.toList.length≤I.data.size-0;simp)
    simp only[Builtin.firstCells,gp,e1,Sem.run_pure]
    congr 1
    apply Array.ext';simp
   ·unfold bytesN
    rw[List.map_map]
    generalize I.data.toList=l
    induction l with
    |nil=>simp[PList]
    |cons b l ih=>simp only[List.map_cons,PList];exact⟨_,_,rfl,by simp[PRel],ih⟩
   ·rw[List.all_eq_true];intro x hx;simp at hx;obtain⟨_,_,rfl⟩:=hx;rfl
  ·simp[Q.run]at r
 ·simp[Q.run]at r
theorem Iq{t u ty e:TypeId}{D:TypeDesc}{i:TypeInfo}{z:Value}(K:P.underlying t=some (.slice e))(N:P.underlying u=some D)(F:D= .string∨ ∃J,D= .slice J)(hi:P.info? e=some i)(O:i.zero=some z)
  {base:Option Addr} {eC iJ n:Nat} {cx:Value} {uM news:List Value} (U:(Builtin.lenOf cx).run P w= .ok n w) (DS:(Builtin.firstCells i.size n cx).run P w.drew= .ok news.toArray w.drew) (r:(Builtin.firstCells i.size eC (.slice base eC iJ)).run P w.drew= .ok uM.toArray w.drew)
  (V:iJ<eC+n) (W:(eC+n)*i.bytes≤1099511627776) (h0:i.bytes≠0):
  (Builtin.append_ #[t,u] ty #[.slice base eC iJ,cx]).run P w= .ok (.slice (some ⟨w.heap.size,0,none⟩) (eC+n) (grownCap w (eC+n) iJ e))
     (w.drew.alloc (.cells (uM.toArray++news.toArray++Builtin.zeroCells z.cells (grownCap w (eC+n) iJ e-(eC+n))) e)):=by
 have H: ¬(eC+n≤iJ):=zO
 have Y:eC+n≤(eC+n)*i.bytes:=Nat.le_mul_of_pos_right _ zO
 have X: ¬(9223372036854775807<((eC:Int)+(n:Int))):=zO
 have I: ¬(281474976710656<Builtin.nextslicecap (eC+n) iJ*i.bytes):=by have:=Qg V W h0;omega
 rcases F with rfl|⟨J,rfl⟩ <;>
 ·simp[Builtin.append_,run_underlying K,run_underlying N,sizeOf,typeInfo,zeroValue,hi,O,U,H,X,I,Question.forced,DS,r,newRow,grownCap]
  grind
theorem qK{t u ty e:TypeId}{D:TypeDesc}{i:TypeInfo}(H:P.underlying t=some (.slice e))(I:P.underlying u=some D)(F:D= .string∨ ∃J,D= .slice J)(hi:P.info? e=some i)
  {base:Option Addr} {eC iJ n:Nat} {cx:Value} {news:List Value} {w':World} (K:(Builtin.lenOf cx).run P w= .ok n w) (DS:(Builtin.firstCells i.size n cx).run P w= .ok news.toArray w)
  (N:eC+n≤iJ) (r:match base with|some O=>(storeCells (O.add (eC*i.size)) news).run P w= .ok () w'|none=>w'=w):
  (Builtin.append_ #[t,u] ty #[.slice base eC iJ,cx]).run P w= .ok (.slice base (eC+n) iJ) w':=by
 rcases F with rfl|⟨J,rfl⟩ <;>
 ·cases base with
  |none=>
   dsimp only at r;subst r
   simp[Builtin.append_,run_underlying H,run_underlying I,sizeOf,typeInfo,hi,K,N,DS]
  |some O=>
   dsimp only at r
   simp[Builtin.append_,run_underlying H,run_underlying I,sizeOf,typeInfo,hi,K,N,DS,r]
theorem acO{bx:Bool}(h:bh B st w β M)(el:TypeId)(c:Array Value)(cs:List T)(wm:Nat)(sp:Sp)(k g:Nat)(D:st.gens sp k<g)
  (F:PList w M cs (c.toList.take cs.length)) (hs:cs.all single=true) (r:cs.length≤c.size) (Ik:wm≤cs.length):
  bh B (st.up (sp,k,⟨g,.cells cs wm bx⟩)) (w.alloc (.cells c el)) (iQ β sp k g ⟨w.heap.size,0,c.size⟩) (fun b x=>M b x∨b=w.heap.size)∧
  Tr st w β M (st.up (sp,k,⟨g,.cells cs wm bx⟩)) (w.alloc (.cells c el)) (iQ β sp k g ⟨w.heap.size,0,c.size⟩) (fun b x=>M b x∨b=w.heap.size):=by
 refine Vt h sp k g D (.cells c el) c.size (.cells cs wm bx) ?_
 unfold ev
 simp only[bX]
 refine⟨c,el,(0,0),by rw[heap_alloc,if_pos rfl],by omega,r,rfl, ?_,fun j _ _=>Or.inr (by trivial),hs,Ik⟩
 simp only[List.drop_zero]
 exact kG.ofP (PList.mono (oY w M _) _ _ F)
variable(ep:kH β st.gens w M st.rho a.eval)(h:bh B st w β M)
include ep h
theorem ak1{d:Nat}{sh nm:Bool}{c:Call}{t u e:TypeId}{ud:TypeDesc}{i:TypeInfo}{z:Value}{s x:Operand}{s' x':aX}(ho:o.op= .call c)(hb:c.callee= .builtin .append)(p6:c.argTypes.toList= [t,u])(has:c.args.toList= [s,x])
  (ht:P.underlying t=some (.slice e)) (I:P.underlying u=some ud) (X:ud= .string∨ ∃e',ud= .slice e') (hi:P.info? e=some i) (hz:i.zero=some z) (kl:i.size=z.cells.size) (h0:i.size≠0) (hby:i.bytes≠0) (hs:fm s=some s') (hx:fm x=some x')
  (D:(bC d st.rho (.app i.size i.bytes s' x' sh nm)).run st.get st.sh.length=some (.val v ups)):eH P B st a w β M o v ups:=by
 have V:=ep s s' hs
 have vx:=ep x x' hx
 have qk:c.argTypes= #[t,u]:=by apply Array.ext';simp[p6]
 have N: ∀cv w',(Builtin.append_ #[t,u] o.type #[a.eval s,a.eval x]).run P w= .ok cv w'→(execOp a.eval o).run P w= .ok (.value cv) w':=by
  intro cv w' hr
  rw[eB ho hb,acF has,qk]
  simp[builtin,hr]
 simp only[bC,jr,Q.run_bind]at D
 cases fK:(cg i.size (st.rho x')).run st.get st.sh.length with
 |none=>grind
 |some p=>
  obtain⟨n,xs⟩:=p
  simp only[fK,Option.bind_some]at D
  obtain⟨news,uN,n1,n2,n3⟩:=C7 (P:=P) h vx fK
  have Lk:news.length=n*i.size:=by rw[←PList.length _ _ n1,n3]
  by_cases hn0:n=0
  ·rw[if_pos hn0]at D
   subst hn0
   have DS:news= []:=by apply List.eq_nil_of_length_eq_zero;simpa using Lk
   subst DS
   have same: ∀base eC iJ,a.eval s= .slice base eC iJ→eC≤iJ→eH P B st a w β M o (st.rho s') []:=by
    intro base eC iJ W hle
    refine be h (cv:= .slice base eC iJ) ?_ (by rw[←W];exact V)
    have:=qK (P:=P) (w:=w) (w':=w) (t:=t) (u:=u) (ty:=o.type) (base:=base) (eC:=eC) (iJ:=iJ) (cx:=a.eval x) (n:=0) (news:= []) ht I X hi (uN w rfl).1 (uN w rfl).2 zO (by cases base <;> simp[storeCells])
    exact N _ _ (by rw[W];exact this)
   grind [Q.run,aq,PRel]
  ·rw[if_neg hn0]at D
   have hz0:z.cells.size≠0:=zO
   have O: ∀(bx:Bool) (base:Option Addr) (eC iJ:Nat) (uM:List Value) (Y:List T) (sp:Sp) (k g wm:Nat),a.eval s= .slice base eC iJ→iJ<eC+n→(eC+n)*i.bytes≤1099511627776→PList w M Y uM→Y.all single=true→Y.length=eC*i.size→
     (Builtin.firstCells i.size eC (.slice base eC iJ)).run P w.drew= .ok uM.toArray w.drew→st.gens sp k<g→wm≤Y.length→eH P B st a w β M o (.isl sp k g 0 (eC+n) i.size) [(sp,k,⟨g,.cells (Y++xs) wm bx⟩)]:=by
    intro bx base eC iJ uM Y sp k g wm W ft J ho1 ho2 ho3 hfc hg Ik
    have hr:=Iq (P:=P) (w:=w) (t:=t) (u:=u) (ty:=o.type) (base:=base) (eC:=eC) (iJ:=iJ) (cx:=a.eval x) (n:=n) (uM:=uM) (news:=news) ht I X hi hz (uN w rfl).1 (uN w.drew rfl).2 hfc ft J hby
    obtain⟨hd1,hd2⟩:=Fu h (w.drawn+1)
    have hol:uM.length=eC*i.size:=by rw[←PList.length _ _ ho1,ho3]
    have A9:=grownCap_ge w (eC+n) iJ e
    have hcs:(uM.toArray++news.toArray++Builtin.zeroCells z.cells (grownCap w (eC+n) iJ e-(eC+n))).size=grownCap w (eC+n) iJ e*i.size:=by
     rw[Array.size_append,Array.size_append,size_zeroCells]
     simp only[List.size_toArray,hol,Lk,←kl]
     rw[←Nat.add_mul,←Nat.add_mul];congr 1;omega
    have F:(Y++xs).length=uM.length+news.length:=by simp[ho3,n3,hol,Lk]
    obtain⟨r1,r2⟩:=acO (bx:=bx) hd1 e (uM.toArray++news.toArray++Builtin.zeroCells z.cells (grownCap w (eC+n) iJ e-(eC+n))) (Y++xs) wm sp k g hg (by
     have:(uM.toArray++news.toArray++Builtin.zeroCells z.cells (grownCap w (eC+n) iJ e-(eC+n))).toList.take (Y++xs).length=uM++news:=by
      rw[F]
      simp only[Array.toList_append,List.toList_toArray]
      rw[List.take_append_of_le_length xv]
      exact List.take_of_length_le xv
     rw[this]
     exact PList.mono hd2.keep _ _ (PList.append ho1 n1)) (by simp only[List.all_append,Bool.and_eq_true];exact⟨ho2,n2⟩) (by
     rw[hcs,F,hol,Lk,←Nat.add_mul];exact Nat.mul_le_mul_right _ A9) (by simp;omega)
    refine⟨_,_,_,_,_,N _ _ (by rw[W];exact hr),.inl rfl,r1,hd2.trans r2 (Nat.le_refl _), ?_, ?_⟩
    ·show w.heap.size≤(w.heap.push _).size;simp
    ·simp only[aq]
     refine⟨by simp[St.ups,eP],grownCap w (eC+n) iJ e, ?_,A9, ?_⟩
     ·rw[bX]
     ·rw[bX,hcs];exact Nat.le_of_eq (Nat.zero_add _)
   split at D
   ·rename_i W
    rw[W]at V;simp only[aq]at V
    split at D
    ·rename_i J
     unfold roomy at J
     obtain⟨sp,k,g,rfl,rfl,hg,_⟩:=jX D
     have:=O (nm&& !sh) none 0 0 [] [] sp k g 0 V zO (by simpa using J) (by simp[PList]) rfl xv (by simp[Builtin.firstCells]) hg (Nat.zero_le _)
     simpa using this
    ·simp[Q.run]at D
   ·rename_i cs len W
    rw[W]at V;simp only[aq,PRel]at V
    obtain⟨blk,off,H,dN,e1,e2,e3,e5,e4⟩:=V
    have:=e3 trivial;subst this
    split at D
    ·rename_i J
     simp at J
     unfold roomy at J
     obtain⟨sp,k,g,rfl,rfl,hg,_⟩:=jX D
     obtain⟨ol,f1,f2,f3,f4⟩:=PCells.load (P:=P) e4
     refine O false _ _ _ ol cs sp k g 0 e1 zO J.2 f3 f4 J.1 ?_ hg (Nat.zero_le _)
     have:=run_loadCells_list (P:=P) w.drew ⟨blk,off,dN⟩ ol (fun j u I=>by
      rcases e5 with e5|e5
      ·subst e5
       rw[ew];have:=f2 j u I;unfold World.cell? at this ⊢; exact this
      ·exfalso
       have h0:ol= []:=List.length_eq_zero_iff.1 (by rw[f1,J.1,e5,Nat.zero_mul])
       subst h0;simp at I)
     rw[f1,J.1]at this
     simp[Builtin.firstCells,this]
    ·simp[Q.run]at D
   ·rename_i sp k g off len sz W
    rw[W]at V;simp only[aq]at V
    obtain⟨q1,H,e1,e2,e3⟩:=V
    split at D
    ·rename_i J
     simp at J
     unfold roomy at J
     obtain⟨⟨rfl,rfl⟩,J⟩:=J
     simp only[Q.run]at D
     split at D
     ·rename_i hg
      have yy:=h.obj sp k
      generalize he:st.get sp k=en at*
      obtain⟨r,ob⟩:=en
      dsimp only at hg;subst hg
      cases ob with
      |none=>simp[Q.run]at D
      |map _ _ _=>simp[Q.run]at D
      |cells cs wm bx=>
       cases bx with
       |true=>simp[Q.run]at D
       |false=>
        dsimp only at D
        split at D
        ·rename_i F
         simp[Q.run]at D;obtain⟨rfl,rfl⟩:=D
         unfold ev at yy
         obtain⟨K,el,fz,h1,h2,h3,h4,h5,h6,h7,h8⟩:=yy
         dsimp only at h1 h2 h3 h4 h5 h6
         subst h4
         have DT:st.gens sp k=r:=by show(st.get sp k).g=r;rw[he]
         by_cases Ll:len+n≤H
         ·have VI:(len+n)*i.size≤H*i.size:=Nat.mul_le_mul_right _ Ll
          rw[Nat.add_mul]at VI
          have VE:=au.one (PList.toV β st.gens _ _ n1) n2
          have Z:=run_storeCells_at P (β sp k r).blk ((β sp k r).off+len*i.size) el news 0 K w h1 zO VE
          rw[lj h1]at Z
          simp only[Nat.add_zero]at Z
          rw[Be _ _ _ (by simp;omega)]at Z
          have hr:=qK (P:=P) (w:=w) (t:=t) (u:=u) (ty:=o.type) (base:=some ⟨(β sp k r).blk,(β sp k r).off+0,none⟩) (eC:=len) (iJ:=H) (cx:=a.eval x) (n:=n) (news:=news) ht I X hi (uN w rfl).1 (uN w rfl).2 Ll (by
           dsimp only;rw[ew];simpa using Z)
          have U:=uJ h he (r+1) (Nat.le_succ _) h1 (len*i.size) news (cs++xs) zO zO (by simp;omega) (by simp[n3];omega) (by simp only[List.all_append,Bool.and_eq_true];exact⟨h7,n2⟩) (by
           show PList w M _ _
           have h5:PList w M cs _:=h5
           have:(splice (K.toList.drop (β sp k r).off) (len*i.size) news).take (cs++xs).length=(K.toList.drop (β sp k r).off).take cs.length++news:=by
            rw[←Be _ _ _ (by simp;omega),F,List.take_append_of_le_length (by simp[n3,Lk];omega)]
            exact List.take_of_length_le (by simp[n3,Lk];omega)
           rw[this]
           exact PList.append h5 n1)
          refine⟨_,_,_,_,_,N _ _ (by rw[e1];exact hr),.inl rfl,U.1,U.2,by rw[eF];exact Nat.le_refl _, ?_⟩
          simp only[aq]
          refine⟨by simp[St.ups,eP],H,by rw[bX],Ll,by rw[bX];exact e3⟩
         ·have Qd:PList w M cs ((K.toList.drop (β sp k r).off).take cs.length):=h5
          refine O false _ len H ((K.toList.drop (β sp k r).off).take cs.length) cs sp k (r+1) wm e1 zO J Qd h7 F.symm ?_ (by rw[DT];omega) h8
          have zE:=PList.length _ _ Qd
          have:=run_loadCells_list (P:=P) w.drew ⟨(β sp k r).blk,(β sp k r).off+0,none⟩ ((K.toList.drop (β sp k r).off).take cs.length) (fun j u I=>by
           rw[ew]
           rw[List.getElem?_take]at I
           split at I
           ·rw[List.getElem?_drop]at I
            unfold World.cell?
            show(match w.heap[(β sp k r).blk]? with|some (.cells c _ _)=>if(none:Option Nat).isSome then none else c[(β sp k r).off+0+j]? |_=>none)=some u
            rw[h1];simpa using I
           ·cases I)
          rw[←zE]at this
          simp only[Builtin.firstCells]
          rw[F]
          exact this
        ·split at D
         ·rename_i hpt
          simp only[Bool.and_eq_true,decide_eq_true_eq]at hpt
          obtain⟨⟨⟨rfl,rfl⟩,F⟩,yC⟩:=hpt
          simp[Q.run]at D;obtain⟨rfl,rfl⟩:=D
          unfold ev at yy
          obtain⟨K,el,fz,h1,h2,h3,h4,h5,h6,h7,h8⟩:=yy
          dsimp only at h1 h2 h3 h4 h5 h6
          subst h4
          have DT:st.gens sp k=r:=by show(st.get sp k).g=r;rw[he]
          have Qd:PList w M cs ((K.toList.drop (β sp k r).off).take cs.length):=h5
          have h5t:PList w M (cs.take (len*i.size)) ((K.toList.drop (β sp k r).off).take (len*i.size)):=by
           have:=PList.take (len*i.size) Qd
           rwa [List.take_take,Nat.min_eq_left zO]at this
          have DU:(cs.take (len*i.size)).length=len*i.size:=by rw[List.length_take];omega
          have p6:(cs.take (len*i.size)).all single=true:=List.all_eq_true.2 fun x hx=>List.all_eq_true.1 h7 x (List.mem_of_mem_take hx)
          by_cases Ll:len+n≤H
          ·have VI:(len+n)*i.size≤H*i.size:=Nat.mul_le_mul_right _ Ll
           rw[Nat.add_mul]at VI
           have VE:=au.one (PList.toV β st.gens _ _ n1) n2
           have Z:=run_storeCells_at P (β sp k r).blk ((β sp k r).off+len*i.size) el news 0 K w h1 zO VE
           rw[lj h1]at Z
           simp only[Nat.add_zero]at Z
           rw[Be _ _ _ (by simp;omega)]at Z
           have hr:=qK (P:=P) (w:=w) (t:=t) (u:=u) (ty:=o.type) (base:=some ⟨(β sp k r).blk,(β sp k r).off+0,none⟩) (eC:=len) (iJ:=H) (cx:=a.eval x) (n:=n) (news:=news) ht I X hi (uN w rfl).1 (uN w rfl).2 Ll (by
            dsimp only;rw[ew];simpa using Z)
           have U:=uJ h he (r+1) (Nat.le_succ _) h1 (len*i.size) news (cs.take (len*i.size)++xs) yC zO (by rw[List.length_append,DU];omega) (by rw[List.length_append,DU,n3];omega) (by simp only[List.all_append,Bool.and_eq_true];exact⟨p6,n2⟩) (by
            show PList w M _ _
            have:(splice (K.toList.drop (β sp k r).off) (len*i.size) news).take (cs.take (len*i.size)++xs).length=(K.toList.drop (β sp k r).off).take (len*i.size)++news:=by
             have hl9:len*i.size+news.length≤(K.toList.drop (β sp k r).off).length:=by simp;omega
             rw[←Be _ _ _ (by simp;omega),List.length_append,DU,n3,←Lk]
             rw[List.take_append_of_le_length (by simp;omega)]
             exact List.take_of_length_le (by simp;omega)
            rw[this]
            exact PList.append h5t n1)
           refine⟨_,_,_,_,_,N _ _ (by rw[e1];exact hr),.inl rfl,U.1,U.2,by rw[eF];exact Nat.le_refl _, ?_⟩
           simp only[aq]
           refine⟨by simp[St.ups,eP],H,by rw[bX],Ll,by rw[bX];exact e3⟩
          ·refine O false _ len H ((K.toList.drop (β sp k r).off).take (len*i.size)) (cs.take (len*i.size)) sp k (r+1) wm e1 zO J h5t p6 DU ?_ (by rw[DT];omega) (by rw[DU];exact yC)
           have zE:=PList.length _ _ h5t
           rw[DU]at zE
           have:=run_loadCells_list (P:=P) w.drew ⟨(β sp k r).blk,(β sp k r).off+0,none⟩ ((K.toList.drop (β sp k r).off).take (len*i.size)) (fun j u I=>by
            rw[ew]
            rw[List.getElem?_take]at I
            split at I
            ·rw[List.getElem?_drop]at I
             unfold World.cell?
             show(match w.heap[(β sp k r).blk]? with|some (.cells c _ _)=>if(none:Option Nat).isSome then none else c[(β sp k r).off+0+j]? |_=>none)=some u
             rw[h1];simpa using I
            ·cases I)
           rw[←zE]at this
           simp only[Builtin.firstCells]
           exact this
         ·simp[Q.run]at D
     ·simp[Q.run]at D
    ·simp[Q.run]at D
   ·simp[Q.run]at D
end
end Go.Ev
namespace Go.Ev
open Go
theorem acP{P:Program}{β:aV}{G:Sp→Nat→Nat}{w:World}{M:aG}{s t e:TypeId}{k:Nat}{ex:Bool}{v:Value}(hs:P.underlying s=some (.slice e))(J:P.underlying e=some (.int .u8))(K:P.underlying t=some .string)(H:aq β G w M (.sl [.i .u8 (k:Int)] 1 ex) v)(hk:k<256):
  ∃I,(convert s t v).run P w= .ok (.string I) w∧bytesN I= [k]:=by
 simp only[aq,PRel,PCells]at H
 obtain⟨r,off,N,sp,rfl,h1,h2,h3,⟨u,h4,h5,rfl,h6⟩,_⟩:=H
 have D:sp=none:=h3.resolve_right zO
 subst D
 have:=run_loadCells_list (P:=P) w ⟨r,off,none⟩ [.int .u8 k] (fun j u F=>by
  cases j with
  |zero=>simp at F;subst F;rw[ew];exact h4
  |succ j=>simp at F)
 simp only[List.length_cons,List.length_nil,Nat.zero_add]at this
 refine⟨ByteArray.empty.push (UInt8.ofNat k), ?_, ?_⟩
 ·simp[convert,run_underlying hs,run_underlying K,run_underlying J,Conv.bytesToString,this]
 ·have:(UInt8.ofNat k).toNat=k:=by simp[UInt8.toNat_ofNat'];omega
  show [(UInt8.ofNat k).toNat]= [k]
  rw[this]
section
variable{P:Program}{B:fA}{st:St}{a:Act}{w:World}{β:aV}{M:aG}{o:Oper}{v:T}{ups:List Up}
theorem l6{x:Option T}{h:Sp→Nat→ah}{nx:Nat}(r:(Ev.val x).run h nx=some (.val v ups)):x=some v∧ups= []:=by
 cases x with
 |none=>simp[Ev.val,Q.run]at r
 |some y=>grind [Ev.val,Q.run]
theorem acQ(ep:kH β st.gens w M st.rho a.eval)(h:bh B st w β M){c:Call}(r:o.op= .call c){sh:Nat}{KL:mV}{d:Nat}(hc:nY P sh c=some KL)
  (D:(bC d st.rho KL).run st.get st.sh.length=some (.val v ups)):eH P B st a w β M o v ups:=by
 unfold nY at hc
 split at hc
 ·grind [Option.map_eq_some_iff,bC,Q.run]
 ·grind [bC,Q.run]
 ·grind [bC,Q.run,acG,acH,acI,acJ]
 ·rename_i F
  split at hc
  ·rename_i t u x y h1 h2
   split at hc
   ·grind [ak1]
   ·cases hc
  ·cases hc
 ·grind [Option.map_eq_some_iff,aiJ]
 ·grind [Option.map_eq_some_iff,aiJ]
 ·cases hc
theorem ak2(ep:kH β st.gens w M st.rho a.eval)(h:bh B st w β M){s t e:TypeId}{x:Operand}{r:aX}(H:o.op= .convert s t x)(hx:fm x=some r)(hs:P.underlying s=some (.slice e))(I:P.underlying e=some (.int .u8))(J:P.underlying t=some .string){k:Nat}{ex:Bool}(K:st.rho r= .sl [.i .u8 (k:Int)] 1 ex)(hk:k<256):eH P B st a w β M o (.s [k]) []:=by
 have D:=ep x r hx
 rw[K]at D
 obtain⟨F,e1,e2⟩:=acP hs I J D hk
 exact be h (cv:= .string F) (by simp[execOp,H,e1]) (by simp only[aq];exact⟨F,rfl,e2⟩)
theorem awE(ep:kH β st.gens w M st.rho a.eval)(h:bh B st w β M){sh:Nat}{KL:mV}{d:Nat}(hc:cN P sh o.op=some KL)
  (D:(bC d st.rho KL).run st.get st.sh.length=some (.val v ups)):eH P B st a w β M o v ups:=by
 cases Bg:o.op with
 |move x=>
  grind [cN,Option.map_eq_some_iff,bC,Q.run,aiI]
 |assign x=>
  rw[Bg]at hc;simp only[cN,Option.map_eq_some_iff]at hc
  obtain⟨y,h1,rfl⟩:=hc
  simp[bC,Q.run]at D;obtain⟨rfl,rfl⟩:=D
  simp_all[aiI]
 |pick c x y=>
  grind [cN,bC,Q.run,acy]
 |alloc t=>
  grind [cN,VB]
 |box t x=>
  grind [cN,Option.map_eq_some_iff,akU]
 |build t J=>
  grind [cN,Option.map_eq_some_iff,Vy]
 |buildSlice t len J=>
  grind [cN,akX]
 |load t x=>
  grind [cN,awo]
 |store t x y=>
  grind [cN,awy]
 |nilCheck x=>
  grind [cN,Option.map_eq_some_iff,akI]
 |binOp op t x y X=>
  rw[Bg]at hc;simp only[cN]at hc
  split at hc
  ·rename_i Y Z h1 h2
   split at hc
   ·rename_i hk
    simp at hc;subst hc
    obtain⟨e1,rfl⟩:=l6 D
    simp only[Option.map_eq_some_iff]at e1
    obtain⟨r,e2,rfl⟩:=e1
    exact Ny (neg:=false) ep h Bg h1 h2 (by have:=pa hk;simp[A1,this]) xv e2
   ·rename_i hk
    simp at hc;subst hc
    obtain⟨e1,rfl⟩:=l6 D
    simp only[Option.map_eq_some_iff]at e1
    obtain⟨r,e2,rfl⟩:=e1
    exact Ny (neg:=true) ep h Bg h1 h2 (by have:=pa hk;simp[A1,this]) xv e2
   ·simp at hc;subst hc
    obtain⟨e1,rfl⟩:=l6 D
    grind [akJ]
   ·rename_i hk
    simp only[Option.map_eq_some_iff]at hc
    obtain⟨k,h3,rfl⟩:=hc
    obtain⟨e1,rfl⟩:=l6 D
    simp only[Option.map_eq_some_iff]at e1
    obtain⟨r,e2,rfl⟩:=e1
    refine Ny (neg:=false) ep h Bg h1 h2 h3 ?_ e2
    have H:=lY h3
    grind
   ·rename_i hk
    simp only[Option.map_eq_some_iff]at hc
    obtain⟨k,h3,rfl⟩:=hc
    obtain⟨e1,rfl⟩:=l6 D
    simp only[Option.map_eq_some_iff]at e1
    obtain⟨r,e2,rfl⟩:=e1
    refine Ny (neg:=true) ep h Bg h1 h2 h3 ?_ e2
    have H:=lY h3
    grind
   ·cases hc
  ·cases hc
 |unOp op t x=>
  rw[Bg]at hc;simp only[cN,Option.map_eq_some_iff]at hc
  obtain⟨y,h1,rfl⟩:=hc
  obtain⟨e1,rfl⟩:=l6 D
  grind [awn]
 |convert s t x=>
  rw[Bg]at hc;simp only[cN]at hc
  split at hc
  ·grind [bC,Q.run,akL]
  ·rename_i e y h1 h2 h3
   split at hc
   ·rename_i h4
    simp at hc;subst hc
    simp only[bC]at D
    split at D
    ·rename_i k ex h5
     split at D
     ·rename_i hk
      simp[Q.run]at D;obtain⟨rfl,rfl⟩:=D
      exact ak2 ep h Bg h3 h1 h4 h2 h5 hk
     ·simp[Q.run]at D
    ·simp[Q.run]at D
   ·cases hc
  ·cases hc
 |makeFunc K first N=>
  rw[Bg]at hc
  cases K <;> simp only[cN]at hc <;> try (cases hc;done)
  grind [bC,Q.run,acB]
 |makeMap t r=>
  rw[Bg]at hc
  cases r <;> simp only[cN]at hc
  ·grind [VC]
  ·cases hc
 |makeSlice t l c=>
  grind [cN,acK]
 |slice t x l O m=>
  rw[Bg]at hc;simp only[cN]at hc
  split at hc
  ·rename_i y U V h1 h2 h3 h4 h5
   simp at hc;subst hc
   have I:m=none:=by cases m <;> simp[qg]at h5 ⊢
   grind [akS]
  ·rename_i e y U V m' h1 h2 h3 h4 h5
   split at hc
   ·rename_i n W
    split at hc
    ·rename_i F
     simp at F hc;subst hc
     refine akT ep h Bg h2 h3 h4 h5 h1 W F.1 ?_ D
     intro I
     rcases F.2 with e1|e1
     ·cases m with
      |none=>simp at I
      |some mm=>grind [qg,Option.map_eq_some_iff]
     ·cases O with
      |none=>grind [qg]
      |some _=>rfl
    ·cases hc
   ·cases hc
  ·cases hc
 |fieldAddr s x f=>
  grind [cN,awp]
 |field s x f=>
  grind [cN,akO]
 |indexAddr t x j=>
  grind [cN,awq,akR]
 |index t x j=>
  grind [cN,akQ,akP]
 |lookup t m k ok=>
  grind [cN,awB]
 |mapUpdate t m k x=>
  grind [cN,Option.map_eq_some_iff,awC]
 |extract x j=>
  rw[Bg]at hc;simp only[cN,Option.map_eq_some_iff]at hc
  obtain⟨y,h1,rfl⟩:=hc
  simp only[bC]at D
  split at D
  ·rename_i vs e
   obtain⟨e1,rfl⟩:=l6 D
   grind [akM]
  ·simp[Q.run]at D
 |call c=>grind [cN,acQ]
 |_=>grind [cN]
end
end Go.Ev
