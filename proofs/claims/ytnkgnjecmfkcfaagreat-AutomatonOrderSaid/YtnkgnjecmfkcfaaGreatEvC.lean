/- A tree evaluator over the model, proved against it (part C): where it answers, the call returns that answer. Conditions: none beyond its theorems' own. -/
import Derived.Test.YtnkgnjecmfkcfaaGreatEvB
import Derived.Laws.Tables
set_option linter.unusedSimpArgs false
set_option linter.unusedVariables false
namespace Go.Ev
open Go
theorem uh{P:Program}{t:TypeId}{z:T}(h:ng P t=some z): ∃i r,P.info? t=some i∧i.zero=some r∧zK r=some z:=by
 unfold ng at h
 cases hi:P.info? t with
 |none=>simp[hi]at h
 |some i=>
  simp only[hi,Option.bind_some]at h
  cases D:i.zero with
  |none=>simp[D]at h
  |some r=>grind
theorem CX{P:Program}{t:TypeId}{z:T}(h:ng P t=some z)(w:World): ∃r,(zeroValue t).run P w= .ok r w∧ ∀w M,PRel w M z r:=by
 obtain⟨i,r,h1,h2,h3⟩:=uh h
 exact⟨r,by simp[zeroValue,typeInfo,h1,h2],fun w M=>lu h3⟩
theorem oB{β:aN}{G:Sp→Nat→Nat}{w:World}{M:MSet}{t:T}{cv:Value}(h:aq β G w M t cv)(r:noTup t=true):au β G w M (cellsOf t) cv.cells.toList∧(cellsOf t).all single=true:=by
 cases t
 case agg cs=>
  simp only[aq]at h
  obtain⟨a,rfl,h1,h2⟩:=h
  exact⟨h1,h2⟩
 case tup cs=>simp[noTup]at r
 case any=>simp[noTup]at r
 all_goals
  have D:=h
  simp only[aq,PRel]at h
  refine⟨?_,rfl⟩
  simp only[cellsOf,au]
  refine⟨cv,[], ?_,D,rfl⟩
  first
   |(subst h;rfl)
   |(obtain⟨_,rfl,_⟩:=h;rfl)
   |(obtain⟨_,_,rfl,_⟩:=h;rfl)
   |(obtain⟨_,_,_,rfl,_⟩:=h;rfl)
   |(obtain⟨_,_,_,_,rfl,_⟩:=h;rfl)
   |(obtain⟨_,rfl⟩:=h;rfl)
theorem ui{w:World}{M:MSet}{t:T}{cv:Value}(h:PRel w M t cv)(r:noTup t=true):PList w M (cellsOf t) cv.cells.toList∧(cellsOf t).all single=true:=by
 cases t
 case agg cs=>
  simp only[PRel]at h
  obtain⟨a,rfl,h1,h2⟩:=h
  exact⟨h1,h2⟩
 case tup cs=>simp[noTup]at r
 case any=>simp[noTup]at r
 case isl=>simp only[PRel]at h
 case ptr=>simp only[PRel]at h
 case mp=>simp only[PRel]at h
 all_goals
  have D:=h
  simp only[PRel]at h
  refine⟨?_,rfl⟩
  simp only[cellsOf,PList]
  refine⟨cv,[], ?_,D,rfl⟩
  first
   |(subst h;rfl)
   |(obtain⟨_,rfl,_⟩:=h;rfl)
   |(obtain⟨_,_,rfl,_⟩:=h;rfl)
   |(obtain⟨_,_,_,rfl,_⟩:=h;rfl)
   |(obtain⟨_,_,_,_,rfl,_⟩:=h;rfl)
theorem cR{α:Type}: ∀(cs:List α) (off:Nat) (r:List α),(splice cs off r).length=cs.length
 |cs,0,[]=>by grind [splice]
 | [],0,v::r=>by simp[splice]
 |c::cs,0,v::r=>by simp[splice,cR cs 0 r]
 | [],off+1,r=>by simp[splice]
 |c::cs,off+1,r=>by simp[splice,cR cs off r]
theorem lB{α:Type}: ∀(cs:List α) (off:Nat),splice cs off []=cs
 |cs,0=>by grind [splice]
 | [],off+1=>by simp[splice]
 |c::cs,off+1=>by simp[splice,lB cs off]
theorem xx{α:Type}: ∀(cs:List α) (off:Nat) (v:α) (r:List α),splice (cs.set off v) (off+1) r=splice cs off (v::r)
 | [],off,v,r=>by grind [splice]
 |c::cs,0,v,r=>by simp[splice]
 |c::cs,off+1,v,r=>by simp[splice,xx cs off v r]
theorem eF{α:Type}: ∀(cs:List α) (off:Nat) (r:List α) (j:Nat),(splice cs off r)[j]? =if off≤j∧j<off+r.length∧j<cs.length then r[j-off]? else cs[j]?
 |cs,0,[],j=>by rw[lB];simp
 | [],0,v::r,j=>by simp[splice]
 |c::cs,0,v::r,0=>by simp[splice]
 |c::cs,0,v::r,j+1=>by simp[splice,eF cs 0 r j]
 | [],off+1,r,j=>by simp[splice]
 |c::cs,off+1,r,0=>by simp[splice]
 |c::cs,off+1,r,j+1=>by
  simp only[splice,List.getElem?_cons_succ,eF cs off r j,List.length_cons]
  grind
theorem au.splice{β:aN}{G:Sp→Nat→Nat}{w:World}{M:MSet}: ∀{cs:List T} {r:List Value} {off:Nat} {D:List T} {KD:List Value},au β G w M cs r→au β G w M D KD→au β G w M (splice cs off D) (splice r off KD)
 |cs,r,0,[],KD,h1,h2=>by grind [au,lB]
 | [],r,0,v::D,KD,h1,h2=>by grind [au,Ev.splice]
 |c::cs,r,0,v::D,KD,h1,h2=>by
  simp only[au]at h1 h2
  obtain⟨a,as,rfl,H,F⟩:=h1
  obtain⟨u,us,rfl,I,J⟩:=h2
  simp only[Ev.splice,au]
  exact⟨u,_,rfl,I,au.splice F J⟩
 | [],r,off+1,D,KD,h1,h2=>by simp_all[au,Ev.splice]
 |c::cs,r,off+1,D,KD,h1,h2=>by
  simp only[au]at h1
  obtain⟨a,as,rfl,H,F⟩:=h1
  simp only[Ev.splice,au]
  exact⟨a,_,rfl,H,au.splice F h2⟩
theorem PList.splice{w:World}{M:MSet}: ∀{cs:List T} {r:List Value} {off:Nat} {D:List T} {KD:List Value},PList w M cs r→PList w M D KD→PList w M (splice cs off D) (splice r off KD)
 |cs,r,0,[],KD,h1,h2=>by grind [PList,lB]
 | [],r,0,v::D,KD,h1,h2=>by grind [PList,Ev.splice]
 |c::cs,r,0,v::D,KD,h1,h2=>by
  simp only[PList]at h1 h2
  obtain⟨a,as,rfl,H,F⟩:=h1
  obtain⟨u,us,rfl,I,J⟩:=h2
  simp only[Ev.splice,PList]
  exact⟨u,_,rfl,I,PList.splice F J⟩
 | [],r,off+1,D,KD,h1,h2=>by simp_all[PList,Ev.splice]
 |c::cs,r,off+1,D,KD,h1,h2=>by
  simp only[PList]at h1
  obtain⟨a,as,rfl,H,F⟩:=h1
  simp only[Ev.splice,PList]
  exact⟨a,_,rfl,H,PList.splice F h2⟩
theorem oC{p:T→Bool}{cs r:List T}{off:Nat}(h1:cs.all p=true)(h2:r.all p=true):(splice cs off r).all p=true:=by
 grind [List.all_eq_true,eF,List.getElem?_of_mem]
theorem wF(off:Nat): ∀(D:List Value) (s:Nat) (r:Array Value),((D.zipIdx s).foldl (fun(cs:Array Value) (p:Value×Nat)=>cs.setIfInBounds (off+p.2) p.1) r).toList=splice r.toList (off+s) D
 | [],s,r=>by simp[lB]
 |v::D,s,r=>by
  simp only[List.zipIdx_cons,List.foldl_cons]
  rw[wF off D (s+1),Array.toList_setIfInBounds,←Nat.add_assoc,xx]
theorem MY{β:aN}{G:Sp→Nat→Nat}{w:World}{M:MSet}{place:Nat→Option (Nat×Nat)}: ∀(parts:List (Nat×Value)) (F:List (Nat×List T)) (H:List T) (D:Array Value) (rs:List T),
  au β G w M H D.toList→H.all single=true→parts.length=F.length→(∀(j i:Nat) (cv:Value) (off:Nat) (ts:List T),parts[j]? =some (i,cv)→F[j]? =some (off,ts)→place i=some (off,ts.length)∧au β G w M ts cv.cells.toList∧ts.all single=true)→
  kg H F=some rs→ ∃rc,Instr.fill place D parts=some rc∧au β G w M rs rc.toList∧rs.all single=true
 | [],F,H,D,rs,J,hs,r,K,I=>by
   grind [kg,Instr.fill]
 |(i,cv)::parts,F,H,D,rs,J,hs,r,K,I=>by
  cases F with
  |nil=>simp at r
  |cons p F=>
   obtain⟨off,ts⟩:=p
   simp only[kg]at I
   split at I
   ·rename_i O
    obtain⟨W,N,R⟩:=K 0 i cv off ts rfl rfl
    have J6:=au.length _ _ N
    have ZN:=au.length _ _ J
    have U:cv.cells.size=ts.length:=by rw[J6];simp
    have V:D.size=H.length:=by rw[ZN];simp
    have hc: ¬((cv.cells.size≠ts.length||off+cv.cells.size>D.size)=true):=by
     grind
    have e:(cv.cells.zipIdx.foldl (fun(cs:Array Value) (p:Value×Nat)=>cs.setIfInBounds (off+p.2) p.1) D).toList=splice D.toList off cv.cells.toList:=by
     have:=wF off cv.cells.toList 0 D
     grind [Array.toList_zipIdx]
    obtain⟨rc,X,Y,Z⟩:=MY parts F (splice H off ts) (cv.cells.zipIdx.foldl (fun(cs:Array Value) (p:Value×Nat)=>cs.setIfInBounds (off+p.2) p.1) D) rs
     (by rw[e];exact au.splice J N) (oC hs R) (by simpa using r) (fun j i cv off ts a b=>K (j+1) i cv off ts (by simpa using a) (by simpa using b)) I
    grind [Instr.fill]
   ·cases I
section
variable{P:Program}{B:eH}{st:St}{a:Act}{w:World}{β:aN}{M:MSet}{o:Oper}{v:T}{ups:List Up}
theorem uj{F:List (Nat×Nat)}: ∀{D:List (Nat×Operand)} {r:List (Nat×Nat×aP)},placesOf F D=some r→D.length=r.length∧ ∀(j i:Nat) (x:Operand) (off n:Nat) (y:aP),D[j]? =some (i,x)→r[j]? =some (off,n,y)→F[i]? =some (off,n)∧eD x=some y
 | [],r,h=>by grind [placesOf]
 |(H,x0)::D,r,h=>by
  simp only[placesOf]at h
  split at h
  ·rename_i p y I h1 h2 h3
   simp at h;subst h
   obtain⟨a1,a2⟩:=uj h3
   grind
  ·cases h
theorem rW{sz:Nat}: ∀{D:List (Nat×Operand)} {r:List (Nat×Nat×aP)},kZ sz D=some r→D.length=r.length∧ ∀(j i:Nat) (x:Operand) (off n:Nat) (y:aP),D[j]? =some (i,x)→r[j]? =some (off,n,y)→(off=i*sz∧n=sz)∧eD x=some y
 | [],r,h=>by grind [kZ]
 |(F,x0)::D,r,h=>by
  simp only[kZ]at h
  split at h
  ·rename_i y H h2 h3
   simp at h;subst h
   obtain⟨a1,a2⟩:=rW h3
   grind
  ·cases h
variable(dC:jE β st.gens w M st.rho a.eval)(h:aZ B st w β M)
include dC h
theorem Ut{d nx:Nat}{t:TypeId}{D:Array (Nat×Operand)}{z:T}{r:List (Nat×Nat×aP)}(ho:o.op= .build t D)(hz:ng P t=some z)
  (O:(∃R H,P.underlying t=some (.struct R)∧R.toList.mapM (fun f=>(P.info? f.type).map fun i=>(f.offset,i.size))=some H∧placesOf H D.toList=some r)∨(∃n e sz,P.underlying t=some (.array n e)∧eC P e=some sz∧kZ sz D.toList=some r))
  (Ee:noTup z=true) (I:(bt d st.rho (.build (cellsOf z) r)).run st.get nx=some (.val v ups)):dP P B st a w β M o v ups:=by
 obtain⟨i,U,z1,z2,z3⟩:=uh hz
 have V:aq β st.gens w M z U:=PRel.toV _ _ _ _ (lu z3)
 obtain⟨W,X⟩:=oB V Ee
 simp only[bt]at I
 split at I
 ·rename_i bH
  cases Y:kg (cellsOf z) (r.map fun p=>(p.1,cellsOf (st.rho p.2.2)))with
  |none=>simp[Y,Ev.val,Q.run]at I
  |some rs=>
   simp[Y,Ev.val,Q.run]at I;obtain⟨rfl,rfl⟩:=I
   have parts: ∃place:Nat→Option (Nat×Nat),(∀rc,Instr.fill place U.cells (D.toList.map fun p=>(p.1,a.eval p.2))=some rc→P.built t (D.map fun(i,x)=>(i,a.eval x)).toList=some rc)∧D.toList.length=r.length∧
     ∀(j i:Nat) (x:Operand) (off n:Nat) (y:aP),D.toList[j]? =some (i,x)→r[j]? =some (off,n,y)→place i=some (off,n)∧eD x=some y:=by
    rcases O with⟨R,H,u1,u2,u3⟩|⟨n,e,sz,u1,u2,u3⟩
    ·obtain⟨Z,g2⟩:=uj u3
     refine⟨fun i=>H[i]?,fun rc F=> ?_,Z,g2⟩
     simp only[Program.built,z1,z2,u1,u2,Array.toList_map]
     have:(fun x:Nat=>H.toArray[x]?)=fun i=>H[i]? :=by funext i;simp
     rw[this];exact F
    ·obtain⟨Z,g2⟩:=rW u3
     have: ∃J,P.info? e=some J∧J.size=sz:=by
      simp_all[eC]
     obtain⟨J,v1,v2⟩:=this
     refine⟨fun i=>some (i*J.size,J.size),fun rc F=> ?_,Z,fun j i x off n y K N=> ?_⟩
     ·simp only[Program.built,z1,z2,u1,v1,Array.toList_map];exact F
     ·obtain⟨⟨rfl,rfl⟩,c⟩:=g2 j i x off n y K N
      exact⟨by rw[v2],c⟩
   obtain⟨place,q1,q2,q3⟩:=parts
   obtain⟨rc,r1,r2,r3⟩:=MY (place:=place) (D.toList.map fun p=>(p.1,a.eval p.2)) _ (cellsOf z) U.cells rs W X (by simp[q2]) (by
    intro j i cv off ts K N
    rw[List.getElem?_map,Option.map_eq_some_iff]at K N
    obtain⟨⟨i',x⟩,c1,c2⟩:=K
    obtain⟨⟨aA9,n,y⟩,c3,c4⟩:=N
    simp at c2 c4
    obtain⟨rfl,rfl⟩:=c2
    obtain⟨rfl,rfl⟩:=c4
    obtain⟨e1,e2⟩:=q3 j i' x aA9 n y c1 c3
    have hv:=dC x y e2
    have Uu:=(List.all_eq_true.1 bH) _ (List.mem_of_getElem? c3)
    simp at Uu
    obtain⟨k1,k2⟩:=oB hv Uu.2
    exact⟨by rw[e1,Uu.1],k1,k2⟩) Y
   refine aR h (cv:= .agg rc) ?_ (by simp only[aq];exact⟨rc,rfl,r2,r3⟩)
   have:=run_build (P:=P) w t (D.map fun(i,x)=>(i,a.eval x)) rc (q1 rc r1)
   simp[execOp,ho,this]
 ·simp[Q.run]at I
end
end Go.Ev
namespace Go.Ev
open Go
theorem jj{st:St}{d:Nat}{sh:Bool}{ob:Ob}{f:Sp→Nat→Nat→T}{v:T}{ups:List Up}(h:(iW d sh ob f).run st.get st.sh.length=some (.val v ups)):
  ∃sp k g,v=f sp k g∧ups= [(sp,k,⟨g,ob⟩)]∧st.gens sp k<g∧(sp= .S→sh=true):=by
 grind [iW,Q.run,St.get,CV,eB]
theorem uk{α:Type}(z:List α): ∀n,(repl z n).length=n*z.length
 |0=>by simp[repl]
 |n+1=>by simp[repl,uk z n,Nat.add_mul];omega
theorem HF{α:Type}(z:List α)(r:z≠ []): ∀(n j:Nat),j<n*z.length→(repl z n)[j]? =z[j%z.length]?
 |0,j,h=>by simp at h
 |n+1,j,h=>by
  have Uv:0<z.length:=List.length_pos_iff.2 r
  simp only[repl]
  by_cases D:j<z.length
  ·rw[List.getElem?_append_left D,Nat.mod_eq_of_lt D]
  ·rw[List.getElem?_append_right zZ,HF z r n (j-z.length) (by rw[Nat.add_mul]at h;omega)]
   grind [Nat.mod_eq_sub_mod]
theorem zU(z:Array Value)(n:Nat)(r:z.size≠0):((Array.range (n*z.size)).map (fun i=>z[i%z.size]!)).toList=repl z.toList n:=by
 apply List.ext_getElem?
 grind [HF,List.getElem?_eq_none,uk,Nat.mod_lt]
theorem PList.repl{w:World}{M:MSet}{z:List T}{r:List Value}(h:PList w M z r): ∀n,PList w M (Ev.repl z n) (Ev.repl r n)
 |0=>by simp[Ev.repl,PList]
 |n+1=>by simp only[Ev.repl];exact PList.append h (PList.repl h n)
theorem zV{z:List T}(h:z.all single=true): ∀n,(repl z n).all single=true
 |0=>by simp[repl]
 |n+1=>by simp only[repl,List.all_append,Bool.and_eq_true];exact⟨h,zV h n⟩
theorem BT{P:Program}{w:World}{t e:TypeId}{i:TypeInfo}{r:Value}{k:IntKind}{m:Int}(F:P.underlying t=some (.slice e))(hi:P.info? e=some i)(H:i.zero=some r)(I:0≤m)(Uw:IntKind.i64.wrap m=m)
  (J:(i.bytes:Int)*m≤281474976710656) (K:m.toNat*i.bytes≤140737488355328):
  (Instr.makeSlice t (.int k m) (.int k m)).run P w= .ok (.slice (some ⟨w.heap.size,0,none⟩) m.toNat m.toNat) (w.alloc (.cells ((Array.range (m.toNat*i.size)).map (fun j=>r.cells[j%r.cells.size]!)) e)):=by
 have h1: ¬(m<0):=zZ
 have h2: ¬(281474976710656<(i.bytes:Int)*m):=zZ
 have h3: ¬(140737488355328<m.toNat*i.bytes):=zZ
 have h4: ¬(m.toNat*i.bytes>roomBytes):=by unfold roomBytes;omega
 simp only[Instr.makeSlice,Sem.run_bind,run_underlying F,Result.andThen_ok,asInt,asIntOf,Sem.run_pure,typeInfo,run_program,hi,Uw]
 simp only[h1,decide_false,Bool.false_or,Int.lt_irrefl,gt_iff_lt,Bool.or_false]
 rw[if_neg (by simp;omega)]
 simp only[Sem.run_bind,askRoom,if_neg h4,Sem.run_pure,Result.andThen_ok,sizeOf,typeInfo,run_program,hi]
 by_cases D:m.toNat*i.size=0
 ·rw[if_pos D,D]
  have:Array.range 0= #[]:=rfl
  simp[newRow,this]
 ·rw[if_neg D]
  simp[newRow,zeroValue,typeInfo,hi,H]
section
variable{P:Program}{B:eH}{st:St}{a:Act}{w:World}{β:aN}{M:MSet}{o:Oper}{v:T}{ups:List Up}
theorem wG(h:aZ B st w β M)(el:TypeId)(c:Array Value)(cs:List T)(bx:Bool)(sp:Sp)(k g:Nat)(H:st.gens sp k<g)
  (I:jC sp bx β st.gens w M cs (c.toList.take cs.length)) (hs:cs.all single=true) (D:cs.length≤c.size):
  aZ B (st.up (sp,k,⟨g,.cells cs 0 bx⟩)) (w.alloc (.cells c el)) (gm β sp k g ⟨w.heap.size,0,c.size⟩) (fun b x=>M b x∨b=w.heap.size)∧
  Tr st w β M (st.up (sp,k,⟨g,.cells cs 0 bx⟩)) (w.alloc (.cells c el)) (gm β sp k g ⟨w.heap.size,0,c.size⟩) (fun b x=>M b x∨b=w.heap.size):=by
 have J: ∀r k' F,F≤st.gens r k'→gm β sp k g ⟨w.heap.size,0,c.size⟩ r k' F=β r k' F:=by
  grind [ub]
 have K: ∀r k',st.gens r k'≤(st.up (sp,k,⟨g,.cells cs 0 bx⟩)).gens r k':=by
  intro r k'
  rw[dX]
  grind
 refine Uo h sp k g H (.cells c el) c.size (.cells cs 0 bx) ?_
 unfold dF
 simp only[bK]
 refine⟨c,el,(0,0),by rw[heap_alloc,if_pos rfl],by omega,D,rfl, ?_,fun j _ _=>Or.inr (by trivial),hs,Nat.zero_le _⟩
 simp only[List.drop_zero]
 exact jC.mono (ou w M _) J K I
theorem Ef{o':Obj}{sp:Sp}{k g:Nat}{ob:Ob}{ext:Nat}{cv:Value}{v:T}(hr:(execOp a.eval o).run P w= .ok (.value cv) (w.alloc o'))
  (r:aZ B (st.up (sp,k,⟨g,ob⟩)) (w.alloc o') (gm β sp k g ⟨w.heap.size,0,ext⟩) (fun b x=>M b x∨b=w.heap.size)∧
    Tr st w β M (st.up (sp,k,⟨g,ob⟩)) (w.alloc o') (gm β sp k g ⟨w.heap.size,0,ext⟩) (fun b x=>M b x∨b=w.heap.size))
  (D:aq (gm β sp k g ⟨w.heap.size,0,ext⟩) (st.up (sp,k,⟨g,ob⟩)).gens (w.alloc o') (fun b x=>M b x∨b=w.heap.size) v cv):dP P B st a w β M o v [(sp,k,⟨g,ob⟩)]:=
 ⟨_,cv,_,_,_,hr,.inl rfl,r.1,r.2,by show _≤(w.heap.push o').size;simp,D⟩
theorem Tr.less{M':MSet}(hs: ∀b x,M' b x→M b x):Tr st w β M st w β M':=⟨de hs,fun _ _ _ _=>rfl,fun _ _=>Nat.le_refl _⟩
theorem dP.less{M':MSet}(hs: ∀b x,M' b x→M b x)(h:dP P B st a w β M' o v ups):dP P B st a w β M o v ups:=by
 obtain⟨nx,cv,w',r,M2,h1,h2,h3,h4,h5,h6⟩:=h
 exact⟨nx,cv,w',r,M2,h1,h2,h3,(Tr.less hs).trans h4 (Nat.le_refl _),h5,h6⟩
theorem um{l:List Value}{n:Nat}(h:n=l.length):l.take n=l:=by subst h;simp
variable(dC:jE β st.gens w M st.rho a.eval)(h:aZ B st w β M)
include h
theorem Ux{d:Nat}{sh:Bool}{t:TypeId}{z:T}(H:o.op= .alloc t)(I:ng P t=some z)(Ee:noTup z=true)
  (D:(bt d st.rho (.alloc (cellsOf z) sh)).run st.get st.sh.length=some (.val v ups)):dP P B st a w β M o v ups:=by
 simp only[bt]at D
 obtain⟨sp,k,g,rfl,rfl,J,K⟩:=jj D
 obtain⟨N,O,R⟩:=CX I w
 obtain⟨F,U⟩:=ui (R w M) Ee
 have r:=PList.length _ _ F
 refine Ef (cv:= .pointer (some ⟨w.heap.size,0,none⟩)) ?_ (wG h t N.cells (cellsOf z) true sp k g J (by rw[um r];exact jC.ofP F) U (by rw[r];simp)) ?_
 ·simp[execOp,H,Instr.alloc,O,newVar,newRow]
 ·simp[aq,bK,dX]
include dC
theorem ajs{d:Nat}{sh:Bool}{t:TypeId}{x:Operand}{H:aP}(V:o.op= .box t x)(hx:eD x=some H)
  (r:(bt d st.rho (.box H sh)).run st.get st.sh.length=some (.val v ups)):dP P B st a w β M o v ups:=by
 have W:=dC x H hx
 simp only[bt]at r
 split at r
 ·simp[Q.run]at r
 ·rename_i BD
  simp at BD
  have I: ∀(M':MSet) (D:T),aZ B st w β M'→noTup D=true→ ∀sp k g,st.gens sp k<g→(match sp with| .L=>aq β st.gens w M' D (a.eval x)| .S=>ow true β st.gens w M' D (a.eval x))→dP P B st a w β M' o (.ptr sp k g 0) [(sp,k,⟨g,.cells (cellsOf D) 0 true⟩)]:=by
   intro M' D X BD sp k g J Y
   have K:aq β st.gens w M' D (a.eval x):=by
    grind [ow.toV]
   obtain⟨O,Z⟩:=oB K BD
   have F:=au.length _ _ O
   refine Ef (cv:= .pointer (some ⟨w.heap.size,0,none⟩)) ?_ (wG X t (a.eval x).cells (cellsOf D) true sp k g J (by
    rw[um F]
    cases sp
    ·exact O
    ·exact fun aW G' p q=>(oB (Y aW G' p q) BD).1) Z (by rw[F];simp)) ?_
   ·simp[execOp,V,Instr.box,newVar,newRow]
   ·simp[aq,bK,dX]
  split at r
  ·simp only[Q.run_bind]at r
   cases N:(fz true aJ (st.rho H)).run st.get st.sh.length with
   |none=>simp[N]at r
   |some p=>
    obtain⟨D,us⟩:=p
    simp only[N,Option.bind_some]at r
    split at r
    ·rename_i R
     simp at R
     obtain⟨rfl,ZP⟩:=R
     obtain⟨sp,k,g,rfl,rfl,J,hgs⟩:=jj r
     obtain⟨M',q1,q2,q3,U,q5⟩:=xt true st aJ (st.rho H) B st w β M _ D [] _ (Fz.refl st) h W N
     exact dP.less q3 (I M' D q1 ZP sp k g J (by cases sp;exact U.toV;exact U))
    ·simp[Q.run]at r
  grind [jj]
omit dC in
theorem Uy{d:Nat}{sh:Bool}{t:TypeId}(D:o.op= .makeMap t none)(r:(bt d st.rho (.mkmap sh)).run st.get st.sh.length=some (.val v ups)):dP P B st a w β M o v ups:=by
 simp only[bt]at r
 obtain⟨sp,k,g,rfl,rfl,F,H⟩:=jj r
 refine Ef (ext:=0) (cv:= .map (some w.heap.size)) (o':= .map #[] 0) ?_ (Uo h sp k g F (.map #[] 0) 0 (.map [] [] false) ?_) ?_
 ·simp[execOp,D,Instr.makeMap]
 ·unfold dF
  simp only[bK]
  exact⟨#[],0,by rw[heap_alloc,if_pos rfl],MapKept.stamped_empty 0,by simp[PList],by simp[PList],fun _ _=>Or.inr (by trivial)⟩
 ·simp[aq,bK,dX]
theorem aaU{d:Nat}{sh:Bool}{t e:TypeId}{l c:Operand}{N:aP}{i:TypeInfo}{z:T}(ho:o.op= .makeSlice t l c)(ht:P.underlying t=some (.slice e))(hi:P.info? e=some i)(hz:ng P e=some z)(hl:eD l=some N)(O:D8 l c=true)
  (Ee:noTup z=true) (r:i.size=(cellsOf z).length) (h0:i.size≠0)
  (H:(bt d st.rho (.mksl (cellsOf z) i.bytes N sh)).run st.get st.sh.length=some (.val v ups)):dP P B st a w β M o v ups:=by
 have Z:=dC l N hl
 have ec:a.eval c=a.eval l:=by
  unfold D8 at O
  grind
 simp only[bt]at H
 split at H
 ·rename_i n en
  obtain⟨k0,m,em,hm,rfl⟩:=ic en
  rw[em]at Z
  have el:=Z.int
  split at H
  ·rename_i fi
   simp at fi
   obtain⟨R,U⟩:=fi
   obtain⟨sp,k,g,rfl,rfl,hg,hgs⟩:=jj H
   obtain⟨i',D,V,z2,z3⟩:=uh hz
   rw[hi]at V;simp at V;subst V
   obtain⟨c1,c2⟩:=ui (w:=w) (M:=M) (lu z3) Ee
   have I:=PList.length _ _ c1
   have W:D.cells.size=i.size:=by rw[r,I];simp
   have X:=zU D.cells m.toNat zZ
   have Y:roomy=1099511627776:=rfl
   rw[Y]at R U
   have Uw:IntKind.i64.wrap m=m:=by
    simp[IntKind.wrap,IntKind.bits,IntKind.signed];omega
   have J:((Array.range (m.toNat*i.size)).map (fun j=>D.cells[j%D.cells.size]!)).size=m.toNat*i.size:=zP
   refine Ef (cv:= .slice (some ⟨w.heap.size,0,none⟩) m.toNat m.toNat) ?_ (wG h e ((Array.range (m.toNat*i.size)).map (fun j=>D.cells[j%D.cells.size]!)) (repl (cellsOf z) m.toNat) (RG (cellsOf z)) sp k g hg ?_ (zV c2 _) ?_) ?_
   ·have K:(i.bytes:Int)*m=((m.toNat*i.bytes:Nat):Int):=by rw[Int.natCast_mul,Int.toNat_of_nonneg hm,Int.mul_comm]
    have:=BT (P:=P) (w:=w) (k:=k0) ht hi z2 hm Uw (by rw[K];omega) zZ
    simp[execOp,ho,ec,el,this]
   ·have F:PList w M (repl (cellsOf z) m.toNat) (((Array.range (m.toNat*i.size)).map (fun j=>D.cells[j%D.cells.size]!)).toList.take (repl (cellsOf z) m.toNat).length):=by
     rw[uk,←r,←W,X]
     have:=PList.repl c1 m.toNat
     rw[um]
     ·exact this
     ·rw[uk];simp
    cases hb:RG (cellsOf z)with
    |false=>exact F
    |true=>
     cases sp with
     |L=>exact PList.toV β st.gens _ _ F
     |S=>exact fun aW G' _ _=>PList.toV aW G' _ _ F
   ·rw[J,uk,r];exact Nat.le_refl _
   ·simp only[aq,bK,dX]
    refine⟨by simp,m.toNat,rfl,Nat.le_refl _, ?_⟩
    rw[J,r];simp
  ·simp[Q.run]at H
 ·simp[Q.run]at H
end
end Go.Ev
namespace Go.Ev
open Go
theorem kI(st:St): ∀(us:List Up) (sp:Sp) (k:Nat),jh us sp k=false→(st.ups us).get sp k=st.get sp k:=by
 intro us
 induction us generalizing st with
 |nil=>intro sp k _;rfl
 |cons u us ih=>
  grind [jh,Bool.or_eq_false_iff,St.ups,eO]
theorem ag5(st:St)(u:Up):(st.up u).fr=st.fr:=by obtain⟨sp,k,e⟩:=u;cases sp <;> rfl
theorem Eg(st:St): ∀(us:List Up),(st.ups us).fr=st.fr:=by
 intro us
 induction us generalizing st with
 |nil=>rfl
 |cons u us ih=>grind [St.ups,ag5]
theorem xy: ∀{D:List (Nat×Operand)} {r:List (Nat×aP)},qM D=some r→D.length=r.length∧ ∀(j i:Nat) (x:Operand) (F:Nat) (y:aP),D[j]? =some (i,x)→r[j]? =some (F,y)→F=i∧eD x=some y
 | [],r,h=>by grind [qM]
 |(H,x0)::D,r,h=>by
  simp only[qM]at h
  split at h
  ·rename_i y I h2 h3
   simp at h;subst h
   obtain⟨a1,a2⟩:=xy h3
   grind
  ·cases h
theorem HG{w:World}{M:MSet}{place:Nat→Option (Nat×Nat)}: ∀(parts:List (Nat×Value)) (F:List (Nat×List T)) (H:List T) (D:Array Value) (rs:List T),
  PList w M H D.toList→H.all single=true→parts.length=F.length→(∀(j i:Nat) (cv:Value) (off:Nat) (ts:List T),parts[j]? =some (i,cv)→F[j]? =some (off,ts)→place i=some (off,ts.length)∧PList w M ts cv.cells.toList∧ts.all single=true)→
  kg H F=some rs→ ∃rc,Instr.fill place D parts=some rc∧PList w M rs rc.toList∧rs.all single=true∧rs.length=H.length
 | [],F,H,D,rs,J,hs,r,K,I=>by
   grind [kg,Instr.fill]
 |(i,cv)::parts,F,H,D,rs,J,hs,r,K,I=>by
  cases F with
  |nil=>simp at r
  |cons p F=>
   obtain⟨off,ts⟩:=p
   simp only[kg]at I
   split at I
   ·rename_i O
    obtain⟨W,N,R⟩:=K 0 i cv off ts rfl rfl
    have J6:=PList.length _ _ N
    have ZN:=PList.length _ _ J
    have U:cv.cells.size=ts.length:=by rw[J6];simp
    have V:D.size=H.length:=by rw[ZN];simp
    have hc: ¬((cv.cells.size≠ts.length||off+cv.cells.size>D.size)=true):=by
     grind
    have e:(cv.cells.zipIdx.foldl (fun(cs:Array Value) (p:Value×Nat)=>cs.setIfInBounds (off+p.2) p.1) D).toList=splice D.toList off cv.cells.toList:=by
     have:=wF off cv.cells.toList 0 D
     grind [Array.toList_zipIdx]
    obtain⟨rc,X,Y,Z,r4⟩:=HG parts F (splice H off ts) (cv.cells.zipIdx.foldl (fun(cs:Array Value) (p:Value×Nat)=>cs.setIfInBounds (off+p.2) p.1) D) rs
     (by rw[e];exact PList.splice J N) (oC hs R) (by simpa using r) (fun j i cv off ts a b=>K (j+1) i cv off ts (by simpa using a) (by simpa using b)) I
    grind [cR,Instr.fill]
   ·cases I
theorem zW{P:Program}{w:World}{t e:TypeId}{len n:Nat}{i:TypeInfo}{H:Value}{parts:Array (Nat×Value)}{rc:Array Value}(I:P.underlying t=some (.slice e))(hi:P.info? e=some i)(K:i.size=n)(N:i.zero=some H)(O:len*n≤16777216)
  (Uz:Instr.fill (fun j=>some (j*n,n)) ((Array.range (len*n)).map (fun j=>H.cells[j%H.cells.size]!)) parts.toList=some rc):
  (Instr.buildSlice t len parts).run P w= .ok (.slice (some ⟨w.heap.size,0,none⟩) len len) (w.alloc (.cells rc e)):=by
 have D: ¬(len*n>2 ^ 24):=zZ
 have F:(sizeOf e).run P w= .ok n w:=by simp[sizeOf,typeInfo,hi,K]
 have r:(zeroValue e).run P w= .ok H w:=by simp[zeroValue,typeInfo,hi,N]
 unfold Instr.buildSlice
 by_cases ki:len*n=0
 ·have J: ∀f:Nat→Value,(Array.range (len*n)).map f= #[]:=by
   grind
  rw[J]at Uz
  simp only[Sem.run_bind,run_underlying I,Result.andThen_ok,F,if_neg D,if_pos ki,Sem.run_pure,J,Uz]
  simp[newRow]
 ·simp only[Sem.run_bind,run_underlying I,Result.andThen_ok,F,if_neg D,if_neg ki,Sem.run_pure,r,Uz]
  simp[newRow]
section
variable{P:Program}{B:eH}{st:St}{a:Act}{w:World}{β:aN}{M:MSet}{o:Oper}{v:T}{ups:List Up}
variable(dC:jE β st.gens w M st.rho a.eval)(h:aZ B st w β M)
theorem Tr.fz{r:St}{M':MSet}(D:Fz st r)(hs: ∀b x,M' b x→M b x):Tr st w β M r w β M':=
 ⟨de hs,fun _ _ _ _=>rfl,fun sp k=>by rw[D.gens];exact Nat.le_refl _⟩
include dC h
theorem ajv{d nx:Nat}{t e:TypeId}{len:Nat}{I:Array (Nat×Operand)}{r:List (Nat×aP)}{z:T}{n:Nat}(ho:o.op= .buildSlice t len I)(ht:P.underlying t=some (.slice e))(hz:ng P e=some z)(O:eC P e=some n)(hr:qM I.toList=some r)
  (Ee:noTup z=true) (F:n=(cellsOf z).length) (h0:n≠0) (R:len*n≤16777216)
  (D:(bt d st.rho (.bsl (cellsOf z) len r)).run st.get nx=some (.val v ups)):dP P B st a w β M o v ups:=by
 simp only[bt,Q.run_bind]at D
 cases U:(bf (Ev.fz false aJ) (r.map fun p=>st.rho p.2)).run st.get nx with
 |none=>simp[U]at D
 |some p=>
  obtain⟨ts,us⟩:=p
  simp only[U,Option.bind_some]at D
  split at D
  ·rename_i bH
   split at D
   ·rename_i cs hf
    simp[Q.run]at D;obtain⟨rfl,rfl⟩:=D
    obtain⟨g1,g2⟩:=xy hr
    have rF:au β st.gens w M (r.map fun p=>st.rho p.2) (I.toList.map fun p=>a.eval p.2):=by
     have gen: ∀(J:List (Nat×Operand)) (rs:List (Nat×aP)),J.length=rs.length→(∀(j i:Nat) (x:Operand) (N:Nat) (y:aP),J[j]? =some (i,x)→rs[j]? =some (N,y)→N=i∧eD x=some y)→au β st.gens w M (rs.map fun p=>st.rho p.2) (J.map fun p=>a.eval p.2):=by
      intro J
      induction J with
      |nil=>grind [au]
      |cons q J ih=>
       intro rs hl hg
       cases rs with
       |nil=>simp at hl
       |cons rr rs=>
        simp only[List.map_cons,au]
        exact⟨_,_,rfl,dC _ _ (hg 0 q.1 q.2 rr.1 rr.2 rfl rfl).2,ih rs (by simpa using hl) (fun j i x N y a b=>hg (j+1) i x N y (by simpa using a) (by simpa using b))⟩
     grind
    obtain⟨M',q1,q2,q3,q4,q5,q6⟩:=jr (fun t=>xt false st aJ t) _ B st w β M _ ts us nx (Fz.refl st) h rF U
    have V:PList w M' ts (I.toList.map fun p=>a.eval p.2):=q4
    obtain⟨i,W,z1,z2,z3⟩:=uh hz
    obtain⟨c1,c2⟩:=ui (w:=w) (M:=M') (lu z3) Ee
    have X:=PList.length _ _ c1
    have Y:i.size=n:=by unfold eC at O;rw[z1]at O;simpa using O
    have K:W.cells.size=n:=by rw[F,X];simp
    have Z:=zU W.cells len zZ
    rw[K]at Z
    have auU:PList w M' (repl (cellsOf z) len) ((Array.range (len*n)).map (fun j=>W.cells[j%n]!)).toList:=by
     grind [PList.repl]
    obtain⟨rc,r1,r2,r3,r4⟩:=HG (place:=fun i=>some (i*n,n)) (I.toList.map fun p=>(p.1,a.eval p.2)) _ (repl (cellsOf z) len) _ cs auU (zV c2 len) (by simp[g1,q6]) (by
     intro j i cv off tt b1 b2
     rw[List.getElem?_map,Option.map_eq_some_iff]at b1
     obtain⟨⟨i1,x⟩,c3,c4⟩:=b1
     simp at c4;obtain⟨rfl,rfl⟩:=c4
     rw[List.getElem?_zip_eq_some]at b2
     obtain⟨b3,b4⟩:=b2
     rw[List.getElem?_map,Option.map_eq_some_iff]at b3 b4
     obtain⟨⟨i2,y⟩,d1,d2⟩:=b3
     obtain⟨tv,d3,d4⟩:=b4
     obtain⟨e1,e2⟩:=g2 j i1 x i2 y c3 d1
     subst e1
     simp at d2
     obtain⟨cv',f1,f2⟩:=V.get d3
     rw[List.getElem?_map,c3]at f1
     simp at f1;subst f1
     have H:=(List.all_eq_true.1 bH) _ (List.mem_of_getElem? d3)
     simp at H
     obtain⟨k1,k2⟩:=ui f2 H.2
     subst d4
     exact⟨by rw[H.1,←F,←d2,F],k1,k2⟩) hf
    obtain⟨p1,p2⟩:=aja q1 (.cells rc e)
    refine⟨_,.slice (some ⟨w.heap.size,0,none⟩) len len,w.alloc (.cells rc e),β,M', ?_,.inl rfl,p1,(Tr.fz q2 q3).trans p2 (Nat.le_refl _),by show _≤(w.heap.push _).size;simp, ?_⟩
    ·have:=zW (P:=P) (w:=w) (t:=t) (e:=e) (len:=len) (n:=n) (parts:=I.map fun(i,x)=>(i,a.eval x)) (rc:=rc) ht z1 Y z2 R (by rw[K];simpa using r1)
     simp[execOp,ho,this]
    ·simp only[aq,PRel]
     refine⟨w.heap.size,0,len,none,rfl,Nat.le_refl _,fun _=>rfl,.inl rfl, ?_⟩
     have Gr:=PList.length _ _ r2
     refine PCells.of (c:=rc) (el:=e) (fz:=(0,0)) (by rw[heap_alloc,if_pos rfl]) _ _ ?_ ?_ r3
     ·rw[List.drop_zero,um Gr];exact PList.mono p2.keep _ _ r2
     ·intro x _ _ hmx
      exact Nat.lt_irrefl _ (q1.mlt _ _ hmx)
   ·simp[Q.run]at D
  ·simp[Q.run]at D
end
end Go.Ev
namespace Go.Ev
open Go
theorem jW{w:World}{g:Nat}{ZQ cs:Array Value}{t:TypeId}{fr:Nat×Nat}(r:w.heap[g]? =some (.cells ZQ t fr)):w.setRow g cs=setBlock w g (.cells cs t fr):=by
 unfold World.setRow setBlock
 congr 1
 grind
theorem aq.one{β:aN}{G:Sp→Nat→Nat}{w:World}{M:MSet}{t:T}{cv:Value}(h:aq β G w M t cv)(hs:single t=true):cv.oneCell'=true:=by
 cases t <;> simp[single]at hs <;> simp only[aq,PRel]at h
 all_goals first
  |(subst h;rfl)
  |(obtain⟨_,rfl,_⟩:=h;rfl)
  |(obtain⟨_,_,rfl,_⟩:=h;rfl)
  |(obtain⟨_,_,_,rfl,_⟩:=h;rfl)
  |(obtain⟨_,_,_,_,rfl,_⟩:=h;rfl)
  |(obtain⟨_,rfl⟩:=h;rfl)
theorem au.one{β:aN}{G:Sp→Nat→Nat}{w:World}{M:MSet}: ∀{ts:List T} {r:List Value},au β G w M ts r→ts.all single=true→ ∀v∈r,v.oneCell'=true
 | [],r,h,_=>by grind [au]
 |t::ts,r,h,hs=>by
  simp only[au]at h
  obtain⟨u,us,rfl,h1,h2⟩:=h
  simp only[List.all_cons,Bool.and_eq_true]at hs
  intro v hv
  simp at hv
  rcases hv with rfl|hv
  ·exact h1.one hs.1
  ·exact au.one h2 hs.2 v hv
theorem aaX(l r:List Value)(k:Nat)(hk:k+r.length≤l.length)(j:Nat):(l.take k++r++l.drop (k+r.length))[j]? =(splice l k r)[j]? :=by
 rw[eF]
 grind
theorem zX(l r:List Value)(k:Nat)(hk:k+r.length≤l.length):l.take k++r++l.drop (k+r.length)=splice l k r:=by
 apply List.ext_getElem?;intro j;exact aaX l r k hk j
section
variable{P:Program}{B:eH}{st:St}{a:Act}{w:World}{β:aN}{M:MSet}{o:Oper}{v:T}{ups:List Up}
theorem uo(h:aZ B st w β M){sp:Sp}{k g F:Nat}{cs:List T}{bx:Bool}(U:st.get sp k=⟨g,.cells cs F bx⟩)(r:Nat)(V:g≤r){c:Array Value}{el:TypeId}
  (W:w.heap[(β sp k g).blk]? =some (.cells c el (0,0))) (off:Nat) (D:List Value) (J8:List T) (HH:F≤off) (HI:off+D.length≤(β sp k g).ext) (hle:F≤J8.length) (X:J8.length≤(β sp k g).ext) (hs:J8.all single=true)
  (hl:jC sp bx β st.gens w M J8 ((splice (c.toList.drop (β sp k g).off) off D).take J8.length)):
  aZ B (st.up (sp,k,⟨r,.cells J8 F bx⟩)) (setBlock w (β sp k g).blk (.cells (splice c.toList ((β sp k g).off+off) D).toArray el)) (gm β sp k r (β sp k g)) M∧
  Tr st w β M (st.up (sp,k,⟨r,.cells J8 F bx⟩)) (setBlock w (β sp k g).blk (.cells (splice c.toList ((β sp k g).off+off) D).toArray el)) (gm β sp k r (β sp k g)) M:=by
 have Y:st.gens sp k=g:=by show(st.get sp k).g=g;rw[U]
 have RJ:live (st.get sp k):=by rw[U];trivial
 have Z:=h.obj sp k
 rw[U]at Z
 unfold dF at Z
 obtain⟨c0,el0,fz0,h1,h2,h3,h4,h5,h6,h7,h8⟩:=Z
 dsimp only at h1 h2 h3 h4 h6
 rw[W]at h1
 simp at h1
 obtain⟨rfl,rfl,rfl⟩:=h1
 have N:=lZ W
 have hk:dr w M (setBlock w (β sp k g).blk (.cells (splice c.toList ((β sp k g).off+off) D).toArray el)) M:=by
  refine⟨fun b x u J K=> ?_,fun b es cl J K=> ?_,fun _ _ _ h=>h⟩
  ·by_cases O:b=(β sp k g).blk
   ·subst O
    unfold World.cell? at J ⊢
    rw[W]at J
    rw[dj,if_pos ⟨rfl,N⟩]
    simp at J ⊢
    rw[eF,if_neg]
    ·simpa using J
    ·rintro⟨q1,q2,q3⟩
     apply K
     have:=h6 (x-(β sp k g).off) zZ zZ
     rwa [show(β sp k g).off+(x-(β sp k g).off)=x by omega]at this
   ·rw[iG (w:=w) (by rw[dj,if_neg (fun e=>O e.1)])];exact J
  grind [dj]
 have UA: ∀H k' I,I≤st.gens H k'→gm β sp k r (β sp k g) H k' I=β H k' I:=by
  grind [bK,ub]
 have hG: ∀H k',st.gens H k'≤(st.up (sp,k,⟨r,.cells J8 F bx⟩)).gens H k':=by
  intro H k';rw[dX];split
  ·grind
  ·grind
 have R:=MP (M':=M) h sp k r (.cells J8 F bx) RJ (by rw[Y];exact V) (.cells (splice c.toList ((β sp k g).off+off) D).toArray el) (fun _ _ K=>K) (fun _ _ _ K=>K) (by rw[Y];exact hk) (h.base RJ)
 rw[Y]at R
 refine R ?_
 unfold dF
 simp only[bK]
 refine⟨_,el,(0,0),by rw[dj,if_pos ⟨rfl,N⟩],by simp[cR];omega,X,rfl, ?_,h6,hs,by omega⟩
 have auV:(splice c.toList ((β sp k g).off+off) D).drop (β sp k g).off=splice (c.toList.drop (β sp k g).off) off D:=by
  apply List.ext_getElem?
  grind [eF,List.length_drop]
 simp only[List.toList_toArray]at auV ⊢
 grind [jC.mono]
variable(dC:jE β st.gens w M st.rho a.eval)(h:aZ B st w β M)
include h
omit h in
theorem CY{M':MSet}{us:List Up}{t:TypeId}{n:Nat}{x y:Operand}{sp:Sp}{k g off J:Nat}{cs:List T}{bx:Bool}{ts:List T}(Y:o.op= .store t x y)(Z:eC P t=some n)(U:aZ B (st.ups us) w β M')(K:Tr st w β M (st.ups us) w β M')
  (hx:a.eval x= .pointer (some ⟨(β sp k g).blk,(β sp k g).off+off,none⟩)) (V:(st.ups us).get sp k=⟨g,.cells cs J bx⟩) (HH:J≤off) (hle:off+n≤cs.length) (W:ts.length=n) (hs:ts.all single=true)
  (F:jC sp bx β (st.ups us).gens w M' ts (a.eval y).cells.toList):
  dP P B st a w β M o aO (us++ [(sp,k,⟨g,.cells (splice cs off ts) J bx⟩)]):=by
 have N:=U.obj sp k
 rw[V]at N
 unfold dF at N
 obtain⟨c,el,fz,h1,h2,h3,h4,h5,h6,h7,h8⟩:=N
 dsimp only at h1 h2 h3 h4 h5 h6
 subst h4
 have D:au β (st.ups us).gens w M' ts (a.eval y).cells.toList:=F.toV
 have O:=au.length _ _ D
 have UB:=au.one D hs
 have H:=run_storeCells_at P (β sp k g).blk ((β sp k g).off+off) el (a.eval y).cells.toList 0 c w h1 (by simp at O ⊢; omega) UB
 rw[jW h1]at H
 simp only[Nat.add_zero]at H
 rw[zX _ _ _ (by simp at O ⊢; omega)]at H
 have r:=uo U V g (Nat.le_refl _) h1 off (a.eval y).cells.toList (splice cs off ts) HH zZ (by rw[cR];omega) (by rw[cR];exact h3) (oC h7 hs) (by
  rw[cR]
  have UC:(splice (c.toList.drop (β sp k g).off) off (a.eval y).cells.toList).take cs.length=splice ((c.toList.drop (β sp k g).off).take cs.length) off (a.eval y).cells.toList:=by
   apply List.ext_getElem?
   intro j
   rw[List.getElem?_take,eF,eF,List.getElem?_take,List.length_take]
   by_cases I:j<cs.length
   ·rw[if_pos I,if_pos I]
    by_cases hc:off≤j∧j<off+(a.eval y).cells.toList.length∧j<(c.toList.drop (β sp k g).off).length
    ·rw[if_pos hc,if_pos zZ]
    ·rw[if_neg hc,if_neg zZ]
   ·rw[if_neg I,if_neg I,if_neg zZ]
  rw[UC]
  cases bx
  ·exact PList.splice h5 F
  ·cases sp
   ·exact au.splice h5 F
   ·exact fun X G' p q=>au.splice (h5 X G' p q) (F X G' p q))
 rw[nj]at r
 refine⟨.skip,undef,setBlock w (β sp k g).blk (.cells (splice c.toList ((β sp k g).off+off) (a.eval y).cells.toList).toArray el),β,M', ?_,.inr ⟨rfl,rfl⟩, ?_, ?_,by rw[dM];exact Nat.le_refl _, ?_⟩
 ·have R:(a.eval y).cells.size=n:=by simp at O;omega
  simp[execOp,Y,hx,Instr.storeAt,Instr.sureAddr,storeVar,fU Z,R,H]
 ·rw[dz];exact r.1
 ·rw[dz];exact K.trans r.2 (Nat.le_refl _)
 ·simp[aq,aO,undef,au]
include dC
theorem auW{d:Nat}{t:TypeId}{n:Nat}{x y:Operand}{K F:aP}(V:o.op= .store t x y)(hx:eD x=some K)(hy:eD y=some F)(W:eC P t=some n)
  (r:(bt d st.rho (.st K F n)).run st.get st.sh.length=some (.val v ups)):dP P B st a w β M o v ups:=by
 have J:=dC x K hx
 have X:=dC y F hy
 simp only[bt,mY]at r
 split at r
 ·simp[Q.run]at r
 ·rename_i hc
  simp at hc
  obtain⟨H,BD⟩:=hc
  split at r
  ·rename_i sp k g off ex
   rw[ex]at J
   simp only[aq]at J
   simp only[Q.run]at r
   split at r
   ·rename_i Y
    generalize Z:st.get sp k=e at*
    obtain⟨ge,ob⟩:=e
    dsimp only at Y;subst Y
    cases ob with
    |none=>simp[Q.run]at r
    |map _ _ _=>simp[Q.run]at r
    |cells cs wm bx=>
     dsimp only at r
     split at r
     ·rename_i HH
      simp at HH
      split at r
      ·rename_i KE
       simp at KE
       obtain⟨rfl,rfl⟩:=KE
       simp[Q.run]at r;obtain⟨rfl,rfl⟩:=r
       obtain⟨k1,k2⟩:=oB X BD
       exact CY (us:= []) V W h (Tr.refl _ _ _ _) J.2 Z HH.1 HH.2 H k2 k1
      ·rename_i KE
       simp only[Q.run_bind]at r
       cases N:(fz (bx&&sp== .S) aJ (st.rho F)).run st.get st.sh.length with
       |none=>simp[N]at r
       |some p=>
        obtain⟨t',us⟩:=p
        simp only[N,Option.bind_some]at r
        split at r
        ·simp[Q.run]at r
        ·rename_i hh
         simp at hh
         obtain⟨⟨O,D⟩,R⟩:=hh
         simp[Q.run]at r;obtain⟨rfl,rfl⟩:=r
         obtain⟨M',q1,q2,q3,I,q5⟩:=xt _ st aJ (st.rho F) B st w β M _ t' us _ (Fz.refl st) h X N
         have U:(st.ups us).get sp k=⟨ge,.cells cs wm bx⟩:=by rw[kI st us sp k O];exact Z
         refine CY (us:=us) V W q1 (Tr.fz q2 q3) J.2 U HH.1 HH.2 R ?_ ?_
         ·exact(oB I.toV D).2
         ·cases bx with
          |false=>
           simp only[Bool.false_and]at I
           exact(ui I D).1
          |true=>
           cases sp with
           |L=>simp at KE
           |S=>
            simp only[Bool.true_and,beq_self_eq_true]at I
            rw[q2.gens]
            exact fun aW G' p q=>(oB (I aW G' p q) D).1
     ·simp[Q.run]at r
   ·simp[Q.run]at r
  ·simp[Q.run]at r
end
end Go.Ev
namespace Go.Ev
open Go
section
variable{P:Program}{B:eH}{st:St}{a:Act}{w:World}{β:aN}{M:MSet}{o:Oper}{v:T}{ups:List Up}
variable(dC:jE β st.gens w M st.rho a.eval)(h:aZ B st w β M)
theorem KF{t R et:TypeId}{ek:EK}{m:Option Nat}{H:Array MapEntry}{F:Nat}{ks vs:List T}{k z r:T}{kv U:Value}{N:Bool}(ht:P.underlying t=some (.map R et))(hk:keyOf P R=some ek)
  (hm:(m=none∧H= #[])∨ ∃I,m=some I∧w.heap[I]? =some (.map H F)) (O:PList w M ks (H.toList.map (·.key))) (V:PList w M vs (H.toList.map (·.val))) (K:aq β st.gens w M k kv) (hz:(zeroValue et).run P w= .ok U w) (hzr:PRel w M z U)
  (J:iq ek ks vs k z N=some r): ∃cv,(Instr.lookup t (.map m) kv N).run P w= .ok cv w∧aq β st.gens w M r cv:=by
 unfold iq at J
 split at J
 ·cases J
 ·rename_i MX
  simp at MX
  have wE:(Instr.checkKey H.isEmpty 10000 R kv).run P w= .ok () w:=xw (P:=P) hk K MX 9998 H.isEmpty
  have W: ∀D,(Instr.findKey R kv H.toList).run P w= .ok D w→(Instr.lookup t (.map m) kv N).run P w=
    .ok (match D with|some (_,cv)=>if N then .tuple #[cv,.bool true]else cv|none=>if N then .tuple #[U,.bool false]else U) w:=by
   intro D BU
   unfold Instr.lookup
   rcases hm with⟨rfl,rfl⟩|⟨I,rfl,hb⟩
   ·simp only[Sem.run_bind,run_underlying ht,Result.andThen_ok,Sem.run_pure,wE,BU]
    cases D with
    |none=>simp[hz]
    |some p=>simp
   ·have xY:(getObj I).run P w= .ok (.map H F) w:=by simp[getObj,Sem.run,hb]
    simp only[Sem.run_bind,run_underlying ht,Result.andThen_ok,Sem.run_pure,xY,wE,BU]
    cases D with
    |none=>simp[hz]
    |some p=>simp
  split at J
  ·rename_i i X
   obtain⟨D,r1,Y⟩:=oz (P:=P) hk K H.toList ks _ O X
   obtain⟨e,e1,e2⟩:=Y
   simp only[Option.map_eq_some_iff]at J
   obtain⟨v',Z,rfl⟩:=J
   obtain⟨cv,c1,c2⟩:=V.get Z
   grind [aq,au,PRel.toV]
  ·rename_i X
   simp at J;subst J
   obtain⟨D,r1,Y⟩:=oz (P:=P) hk K H.toList ks _ O X
   refine⟨_,W D r1, ?_⟩
   have:D=none:=Y
   grind [aq,au,PRel.toV]
  ·cases J
include dC h
theorem auZ{d nx:Nat}{t Y Z:TypeId}{m k:Operand}{W k':aP}{R:Bool}{U:EK}{z:T}(ho:o.op= .lookup t m k R)(hm:eD m=some W)(hk:eD k=some k')(ht:P.underlying t=some (.map Y Z))(X:keyOf P Y=some U)(hz:ng P Z=some z)
  (F:(bt d st.rho (.lk U W k' z R)).run st.get nx=some (.val v ups)):dP P B st a w β M o v ups:=by
 have H:=dC m W hm
 have vk:=dC k k' hk
 obtain⟨zv,z1,z2⟩:=CX hz w
 have N: ∀(V:Option Nat) (I:Array MapEntry) (D:Nat) (ks J:List T) (r:T),a.eval m= .map V→((V=none∧I= #[])∨ ∃K,V=some K∧w.heap[K]? =some (.map I D))→PList w M ks (I.toList.map (·.key))→PList w M J (I.toList.map (·.val))→
   iq U ks J (st.rho k') z R=some r→dP P B st a w β M o r []:=by
  intro V I D ks J r e1 e2 e3 e4 e5
  obtain⟨cv,r1,r2⟩:=KF (P:=P) (β:=β) (st:=st) ht X e2 e3 e4 vk z1 (z2 w M) e5
  exact aR h (cv:=cv) (by simp[execOp,ho,e1,r1]) r2
 simp only[bt]at F
 split at F
 ·rename_i e
  rw[e]at H;simp only[aq]at H
  split at F
  ·rename_i MX
   simp[Q.run]at F;obtain⟨rfl,rfl⟩:=F
   exact N none #[] 0 [] [] _ H (.inl ⟨rfl,rfl⟩) (by simp[PList]) (by simp[PList]) (by simp[iq,MX,fZ])
  ·simp[Q.run]at F
 ·rename_i ks J e
  rw[e]at H;simp only[aq,PRel]at H
  obtain⟨K,I,D,e1,e2,_,_,e3,e4⟩:=H
  cases O:iq U ks J (st.rho k') z R with
  |none=>simp[O,Ev.val,Q.run]at F
  |some r=>
   simp[O,Ev.val,Q.run]at F;obtain⟨rfl,rfl⟩:=F
   exact N _ I D ks J _ e1 (.inr ⟨K,rfl,e2⟩) e3 e4 O
 ·rename_i sp kk g e
  rw[e]at H;simp only[aq]at H
  simp only[Q.run]at F
  split at F
  ·rename_i hg
   have xW:=h.obj sp kk
   generalize he:st.get sp kk=en at*
   obtain⟨ge,ob⟩:=en
   dsimp only at hg;subst hg
   cases ob with
   |none=>simp[Q.run]at F
   |cells _ _ _=>simp[Q.run]at F
   |map ks J f=>
    dsimp only at F
    unfold dF at xW
    obtain⟨I,D,e2,_,e3,e4,_⟩:=xW
    cases O:iq U ks J (st.rho k') z R with
    |none=>simp[O,Ev.val,Q.run]at F
    |some r=>
     simp[O,Ev.val,Q.run]at F;obtain⟨rfl,rfl⟩:=F
     exact N _ I D ks J _ H.2 (.inr ⟨_,rfl,e2⟩) e3 e4 O
  ·simp[Q.run]at F
 ·simp[Q.run]at F
omit dC h
theorem PList.set{ts:List T}{r:List Value}(i:Nat){t:T}{cv:Value}(h:PList w M ts r)(D:PRel w M t cv):PList w M (ts.set i t) (r.set i cv):=by
 induction ts generalizing r i with
 |nil=>grind [PList]
 |cons x xs ih=>
  simp only[PList]at h
  obtain⟨u,us,rfl,h1,h2⟩:=h
  cases i with
  |zero=>grind [PList]
  |succ i=>grind [PList]
theorem rX{c:CK}{x y:T}{D F:Value}(hx:aq β st.gens w M x D)(r:aq β st.gens w M y F)(h:ep c x y=some true)(n:Nat):Instr.sameBits n F D=true:=by
 unfold ep at h
 split at h
 ·simp at h;subst h;rw[hx.bool,r.bool];simp[Instr.sameBits]
 ·split at h
  ·rename_i e;subst e;simp at h;subst h;rw[hx.int,r.int];simp[Instr.sameBits]
  ·cases h
 ·simp at h;subst h
  obtain⟨H,e1,I⟩:=hx.str
  obtain⟨J,e2,K⟩:=r.str
  rw[e1,e2]
  have:(J==H)=true:=by
   rw[beq_toListBytes,←fI,←bytesN_toList,←bytesN_toList,I,K];simp
  grind [Instr.sameBits]
 ·cases h
theorem pV: ∀{ks:List CK} {xs r:List T} {D F:List Value},au β st.gens w M xs D→au β st.gens w M r F→bW ks xs r=some true→ ∀n,D.length=F.length∧((F.zip D).all fun p=>Instr.sameBits n p.1 p.2)=true
 | [],xs,r,D,F,hx,H,h,n=>by
   cases xs <;> cases r <;> simp[bW]at h
   simp_all[au]
 |k::ks,xs,r,D,F,hx,H,h,n=>by
  cases xs with
  |nil=>grind [bW]
  |cons x xs=>
   cases r with
   |nil=>simp[bW]at h
   |cons y r=>
    simp only[au]at hx H
    obtain⟨u,us,rfl,h1,h2⟩:=hx
    obtain⟨O,J,rfl,K,I⟩:=H
    simp only[bW]at h
    cases hc:ep k x y with
    |none=>simp[hc]at h
    |some b=>
     cases b with
     |false=>simp[hc]at h
     |true=>
      simp only[hc]at h
      obtain⟨R,N⟩:=pV h2 I h n
      simp only[List.length_cons,List.zip_cons_cons,List.all_cons,Bool.and_eq_true]
      exact⟨by omega,rX h1 K hc n,N⟩
theorem Eh{r:EK}{x y:T}{F H:Value}(I:(∃c,r= .one c)∨ ∃ks,r= .flat ks)(hx:aq β st.gens w M x F)(D:aq β st.gens w M y H)(h:rD r x y=some true)(n:Nat):Instr.sameBits (n+1) H F=true:=by
 rcases I with⟨c,rfl⟩|⟨ks,rfl⟩
 ·exact rX hx D h _
 ·unfold rD at h
  split at h <;> simp_all
  rename_i xs N
  simp only[aq]at hx D
  obtain⟨O,rfl,J,_⟩:=hx
  obtain⟨R,rfl,K,_⟩:=D
  obtain⟨U,V⟩:=pV J K h n
  simp_all[Instr.sameBits,Bool.and_eq_true]
theorem HJ{D:EK}{k:T}: ∀{ks:List T} {i:Nat},fZ D k ks=some (some i)→ ∃x,ks[i]? =some x∧rD D k x=some true
 | [],i,h=>by simp[fZ]at h
 |x::xs,i,h=>by
  simp only[fZ]at h
  split at h
  ·grind
  ·simp only[Option.map_eq_some_iff]at h
   obtain⟨r,h1,h2⟩:=h
   cases r with
   |none=>simp at h2
   |some j=>
    simp at h2;subst h2
    simp_all[HJ]
  ·cases h
theorem xz{c:CK}{x y:T}{H I:Value}(hx:aq β st.gens w M x H)(r:aq β st.gens w M y I)(h:ep c x y=some true):H=I:=by
 unfold ep at h
 split at h
 ·simp at h;subst h;rw[hx.bool,r.bool]
 ·split at h
  ·rename_i e;subst e;simp at h;subst h;rw[hx.int,r.int]
  ·cases h
 ·simp at h;subst h
  obtain⟨D,e1,J⟩:=hx.str
  obtain⟨F,e2,K⟩:=r.str
  rw[e1,e2]
  have h3:bytesN D=bytesN F:=J.trans K.symm
  have h4:D.data.toList=F.data.toList:=(List.map_inj_right (f:=UInt8.toNat) (fun _ _ h=>UInt8.toNat_inj.1 h)).1 h3
  have h5:D=F:=ByteArray.ext (Array.toList_inj.1 h4)
  rw[h5]
 ·cases h
theorem uq: ∀{ks:List CK} {xs r:List T} {D F:List Value},au β st.gens w M xs D→au β st.gens w M r F→bW ks xs r=some true→D=F
 | [],xs,r,D,F,hx,H,h=>by
   grind [bW,au]
 |k::ks,xs,r,D,F,hx,H,h=>by
  cases xs with
  |nil=>grind [bW]
  |cons x xs=>
   cases r with
   |nil=>simp[bW]at h
   |cons y r=>
    simp only[au]at hx H
    obtain⟨u,us,rfl,h1,h2⟩:=hx
    obtain⟨N,J,rfl,K,I⟩:=H
    simp only[bW]at h
    cases hc:ep k x y with
    |none=>simp[hc]at h
    |some b=>
     cases b with
     |false=>simp[hc]at h
     |true=>
      simp only[hc]at h
      rw[xz h1 K hc,uq h2 I h]
theorem UD{r:EK}{x y:T}{F H:Value}(I:(∃c,r= .one c)∨ ∃ks,r= .flat ks)(hx:aq β st.gens w M x F)(D:aq β st.gens w M y H)(h:rD r x y=some true):F=H:=by
 rcases I with⟨c,rfl⟩|⟨ks,rfl⟩
 ·exact xz hx D h
 ·unfold rD at h
  split at h <;> simp_all
  rename_i xs N
  simp only[aq]at hx D
  obtain⟨O,rfl,J,_⟩:=hx
  obtain⟨R,rfl,K,_⟩:=D
  have:=uq J K h
  simp_all
theorem ur{c:CK}{x y:T}{v:Value}(hx:aq β st.gens w M x v)(r:aq β st.gens w M y v)(h:ep c x y=some false):False:=by
 unfold ep at h
 split at h
 ·have e:=hx.bool;rw[r.bool]at e;cases e;simp at h
 ·split at h
  ·rename_i e;subst e
   have e:=hx.int;rw[r.int]at e;cases e;simp at h
  ·cases h
 ·obtain⟨D,e1,F⟩:=hx.str
  obtain⟨H,e2,I⟩:=r.str
  grind
 ·cases h
theorem rY: ∀{ks:List CK} {xs r:List T} {v:List Value},au β st.gens w M xs v→au β st.gens w M r v→bW ks xs r=some false→False
 | [],xs,r,v,hx,D,h=>by
   grind [bW]
 |k::ks,xs,r,v,hx,D,h=>by
  cases xs with
  |nil=>grind [bW]
  |cons x xs=>
   cases r with
   |nil=>simp[bW]at h
   |cons y r=>
    simp only[au]at hx D
    obtain⟨u,us,rfl,h1,h2⟩:=hx
    obtain⟨J,H,e,I,F⟩:=D
    cases e
    simp only[bW]at h
    cases hc:ep k x y with
    |none=>simp[hc]at h
    |some b=>
     cases b with
     |false=>exact ur h1 I hc
     |true=>
      simp only[hc]at h
      exact rY h2 F h
theorem PF{r:EK}{x y:T}{v:Value}(F:(∃c,r= .one c)∨ ∃ks,r= .flat ks)(hx:aq β st.gens w M x v)(D:aq β st.gens w M y v)(h:rD r x y=some false):False:=by
 rcases F with⟨c,rfl⟩|⟨ks,rfl⟩
 ·exact ur hx D h
 ·unfold rD at h
  split at h <;> simp_all
  rename_i xs J
  simp only[aq]at hx D
  obtain⟨K,rfl,H,_⟩:=hx
  obtain⟨N,e,I,_⟩:=D
  cases e
  exact rY H I h
theorem zY{D:EK}{k:T}: ∀{ks:List T},fZ D k ks=some none→ ∀x∈ks,rD D k x=some false
 | [],h,x,hx=>by simp at hx
 |y::H,h,x,hx=>by
  simp only[fZ]at h
  split at h
  ·simp at h
  ·rename_i F
   simp only[Option.map_eq_some_iff]at h
   obtain⟨r,h1,h2⟩:=h
   cases r with
   |some j=>simp at h2
   |none=>
    rcases List.mem_cons.1 hx with rfl|hx
    ·exact F
    ·exact zY h1 x hx
  ·cases h
theorem PList.getV{w:World}{M:MSet}: ∀{ts:List T} {r:List Value},PList w M ts r→ ∀{j:Nat} {v:Value},r[j]? =some v→ ∃t,ts[j]? =some t∧PRel w M t v
 | [],r,h,j,v,D=>by grind [PList]
 |x::xs,r,h,j,v,D=>by
  simp only[PList]at h
  obtain⟨u,us,rfl,h1,h2⟩:=h
  cases j with
  |zero=>grind
  |succ j=>obtain⟨t,e1,e2⟩:=PList.getV h2 (j:=j) (v:=v) (by simpa using D);exact⟨t,by simpa using e1,e2⟩
theorem ag6(h:aZ B st w β M){sp:Sp}{k g:Nat}{ks Y:List T}(N:st.get sp k=⟨g,.map ks Y false⟩)(HK:Array MapEntry)(F:Nat)(O:MapKept.Stamped HK F)(r K:List T)(hk:PList w M r (HK.toList.map (·.key)))(Z:PList w M K (HK.toList.map (·.val))):
  aZ B (st.up (sp,k,⟨g,.map r K false⟩)) (setBlock w (β sp k g).blk (.map HK F)) β M∧Tr st w β M (st.up (sp,k,⟨g,.map r K false⟩)) (setBlock w (β sp k g).blk (.map HK F)) β M:=by
 have R:st.gens sp k=g:=by show(st.get sp k).g=g;rw[N]
 have RJ:live (st.get sp k):=by rw[N];trivial
 have U:=h.obj sp k
 rw[N]at U
 unfold dF at U
 obtain⟨es,V,h1,_,h2,h3,h4⟩:=U
 dsimp only at h1 h4
 have W:=lZ h1
 have D:dr w M (setBlock w (β sp k g).blk (.map HK F)) M:=by
  refine⟨fun b x u X H=> ?_,fun b es cl X H=> ?_,fun _ _ _ h=>h⟩
  ·by_cases I:b=(β sp k g).blk
   ·grind
   ·rw[iG (w:=w) (by rw[dj,if_neg (fun e=>I e.1)])];exact X
  ·by_cases I:b=(β sp k g).blk
   ·simp_all
   ·grind [dj]
 have J:=MP (M':=M) h sp k g (.map r K false) RJ (Nat.le_of_eq R) (.map HK F) (fun _ _ H=>H) (fun _ _ _ H=>H) (by rw[R];exact D) (h.base RJ)
 rw[R,nj]at J
 refine J ?_
 exact⟨HK,F,by rw[dj,if_pos ⟨rfl,W⟩],O,PList.mono D _ _ hk,PList.mono D _ _ Z,h4⟩
include dC h
theorem au0{d:Nat}{t kt et:TypeId}{m k x:Operand}{m' k' Z:aP}{ek:EK}(ho:o.op= .mapUpdate t m k x)(hm:eD m=some m')(hk:eD k=some k')(hx:eD x=some Z)(ht:P.underlying t=some (.map kt et))(J:keyOf P kt=some ek)
  (r:(bt d st.rho (.mu ek m' k' Z)).run st.get st.sh.length=some (.val v ups)):dP P B st a w β M o v ups:=by
 have vm:=dC m m' hm
 have vk:=dC k k' hk
 have vx:=dC x Z hx
 simp only[bt]at r
 split at r
 ·rename_i sp kk g e
  rw[e]at vm;simp only[aq]at vm
  simp only[Q.run]at r
  split at r
  ·rename_i hg
   simp at hg
   obtain⟨hg,MX⟩:=hg
   generalize he:st.get sp kk=en at*
   obtain⟨I,ob⟩:=en
   dsimp only at hg;subst hg
   split at r
   ·rename_i ks N heq
    dsimp only at heq;subst heq
    simp only[Q.run_bind]at r
    cases hz:(fz false aJ (st.rho Z)).run st.get st.sh.length with
    |none=>simp[hz]at r
    |some p=>
     obtain⟨t',us⟩:=p
     simp only[hz,Option.bind_some]at r
     split at r
     ·rename_i q R
      split at r
      ·simp[Q.run]at r
      ·rename_i hh
       simp at hh
       simp[Q.run]at r;obtain⟨rfl,rfl⟩:=r
       obtain⟨M',q1,q2,q3,q4,q5⟩:=xt _ st aJ (st.rho Z) B st w β M _ t' us _ (Fz.refl st) h vx hz
       have q4':PRel w M' t' (a.eval x):=q4
       have U:(st.ups us).get sp kk=⟨I,.map ks N false⟩:=by rw[kI st us sp kk hh];exact he
       have xW:=q1.obj sp kk
       rw[U]at xW
       unfold dF at xW
       obtain⟨F,clock,e2,fv,e3,e4,_⟩:=xW
       dsimp only at e2
       have ZR:aq β st.gens w M' (st.rho k') (a.eval k):=aq.mono (de q3) (fun _ _ _ _=>rfl) (fun _ _=>Nat.le_refl _) _ _ vk
       have wE:(Instr.checkKey false 10000 kt (a.eval k)).run P w= .ok () w:=xw (P:=P) J ZR MX 9998 false
       obtain⟨_,l7⟩:=Ed J
       have kp:PRel w M' (st.rho k') (a.eval k):=by
        generalize st.rho k'=tk at*
        cases tk <;> rcases l7 with⟨c,rfl⟩|⟨cs,rfl⟩ <;> (try (cases c)) <;> simp[isKey,D7]at MX
        all_goals first
         |(simp only[aq]at ZR;simp only[PRel];exact ZR;done)
         |skip
        rename_i xs
        simp only[aq]at ZR
        obtain⟨arr,e5,l5,s5⟩:=ZR
        simp only[PRel]
        refine⟨arr,e5, ?_,s5⟩
        have: ∀(cs:List CK) (xs:List T) (N:List Value),kG cs xs=true→au β st.gens w M' xs N→PList w M' xs N:=by
         intro cs
         induction cs with
         |nil=>intro xs N hc hv;cases xs <;> simp[kG]at hc;simpa only[au,PList]using hv
         |cons c cs ih=>
          intro xs N hc hv
          cases xs with
          |nil=>simp[kG]at hc
          |cons x xs=>
           simp only[kG,Bool.and_eq_true]at hc
           simp only[au]at hv;simp only[PList]
           obtain⟨u,us,rfl,w1,w2⟩:=hv
           refine⟨u,us,rfl, ?_,ih xs us hc.2 w2⟩
           cases c <;> cases x <;> simp[D7]at hc <;> simp only[aq]at w1 <;> simp only[PRel] <;> exact w1
        exact this _ _ _ MX l5
       have run: ∀(D:Option (Nat×Value)) (HK:Array MapEntry) (lC:Nat),(Instr.findKey kt (a.eval k) F.toList).run P w= .ok D w→
         (match D with
           |some (i,_)=>do
            let key ←Instr.keyThatStays (((F[i]?).map (fun e:MapEntry=>e.key)).getD (a.eval k)) (a.eval k)
            setObj (β sp kk I).blk (.map (F.modify i fun e=>{e with key,val:=a.eval x}) clock)
           |none=>setObj (β sp kk I).blk (.map (F.push {key:=a.eval k,val:=a.eval x,born:=clock}) (clock+1))).run P w= .ok () (setBlock w (β sp kk I).blk (.map HK lC))→
         (execOp a.eval o).run P w= .ok .skip (setBlock w (β sp kk I).blk (.map HK lC)):=by
        intro D HK lC BU HL
        have:(Instr.mapUpdate t (.map (some (β sp kk I).blk)) (a.eval k) (a.eval x)).run P w= .ok () (setBlock w (β sp kk I).blk (.map HK lC)):=by
         unfold Instr.mapUpdate
         simp only[Sem.run_bind,run_underlying ht,Result.andThen_ok]
         have xY:(getObj (β sp kk I).blk).run P w= .ok (.map F clock) w:=by simp[getObj,Sem.run,e2]
         simp only[xY,Result.andThen_ok,Sem.run_bind,wE,BU]
         cases D with
         |none=>exact HL
         |some p=>exact HL
        simp[execOp,ho,vm.2,this]
       have HL: ∀(HK:Array MapEntry) (c':Nat),(setObj (β sp kk I).blk (.map HK c')).run P w= .ok () (setBlock w (β sp kk I).blk (.map HK c')):=by
        intro HK c';simp[setObj,Sem.run,e2,setBlock]
       unfold lq at R
       split at R
       ·rename_i i hf
        simp at R;subst R
        obtain⟨D,r1,e,O,r3⟩:=oz (P:=P) J ZR F.toList ks _ e3 hf
        obtain⟨kx,V,H⟩:=HJ hf
        obtain⟨kcv,K,kc2⟩:=e3.get V
        rw[List.getElem?_map,O]at K
        simp at K
        have hsb:=Eh (β:=β) (st:=st) l7 ZR (PRel.toV β st.gens _ _ kc2) H 9999
        have hei:F[i]? =some e:=by simpa using O
        simp only[Nat.zero_add]at r3
        have hkt:(Instr.keyThatStays (((F[i]?).map (fun e:MapEntry=>e.key)).getD (a.eval k)) (a.eval k)).run P w= .ok (a.eval k) w:=by
         rw[hei];simp only[Option.map_some,Option.getD_some,K]
         unfold Instr.keyThatStays
         rw[if_pos hsb];rfl
        obtain⟨W,X⟩:=ag6 q1 U (F.modify i fun e=>{e with key:=a.eval k,val:=a.eval x}) clock (MapKept.stamped_modify fv i _ (fun _ _=>rfl) (fun e' _ ZP=>by
         have hh:e'=e:=by rw[hei]at ZP;exact(Option.some.inj ZP).symm
         subst hh
         exact(UD l7 ZR (PRel.toV β st.gens _ _ kc2) H).trans K.symm)) (ks.set i (st.rho k')) (N.set i t') (by
         have:=PList.set i e3 kp
         have e5:(F.modify i fun e=>{e with key:=a.eval k,val:=a.eval x}).toList.map (·.key)=(F.toList.map (·.key)).set i (a.eval k):=by
          apply List.ext_getElem?;intro j
          rw[Array.toList_modify,List.getElem?_map,List.getElem?_modify,List.getElem?_set,List.getElem?_map]
          by_cases Y:i=j
          ·subst Y;rw[O];simp;exact(List.getElem?_eq_some_iff.1 O).1
          ·simp[Y]
         rw[e5];exact this) (by
         have:=PList.set i e4 q4'
         have e5:(F.modify i fun e=>{e with key:=a.eval k,val:=a.eval x}).toList.map (·.val)=(F.toList.map (·.val)).set i (a.eval x):=by
          apply List.ext_getElem?;intro j
          rw[Array.toList_modify,List.getElem?_map,List.getElem?_modify,List.getElem?_set,List.getElem?_map]
          by_cases Y:i=j
          ·subst Y;rw[O];simp;exact(List.getElem?_eq_some_iff.1 O).1
          ·simp[Y]
         rw[e5];exact this)
        refine⟨.skip,undef,_,β,M',run D _ clock r1 ?_,.inr ⟨rfl,rfl⟩,by rw[dz];exact W,by rw[dz];exact(Tr.fz q2 q3).trans X (Nat.le_refl _),by rw[dM];exact Nat.le_refl _,by simp[aq,aO,undef,au]⟩
        subst r3
        simp only[Sem.run_bind,hkt,Result.andThen_ok]
        exact HL _ _
       ·rename_i hf
        simp at R;subst R
        obtain⟨D,r1,O⟩:=oz (P:=P) J ZR F.toList ks _ e3 hf
        have:D=none:=O
        subst this
        obtain⟨W,X⟩:=ag6 q1 U (F.push {key:=a.eval k,val:=a.eval x,born:=clock}) (clock+1) (MapKept.stamped_push fv (fun y hy ZP=>by
         obtain⟨j,Y⟩:=List.getElem?_of_mem hy
         obtain⟨kx,V,H⟩:=e3.getV (j:=j) (v:=y.key) (by rw[List.getElem?_map,Y];rfl)
         rw[ZP]at H
         exact PF l7 ZR (PRel.toV β st.gens _ _ H) (zY hf _ (List.mem_of_getElem? V)))) (ks++ [st.rho k']) (N++ [t']) (by
         simp only[Array.toList_push,List.map_append,List.map_cons,List.map_nil]
         exact PList.append e3 (by simp only[PList];exact⟨_,_,rfl,kp,rfl⟩)) (by
         simp only[Array.toList_push,List.map_append,List.map_cons,List.map_nil]
         exact PList.append e4 (by simp only[PList];exact⟨_,_,rfl,q4',rfl⟩))
        exact⟨.skip,undef,_,β,M',run none _ (clock+1) r1 (HL _ _),.inr ⟨rfl,rfl⟩,by rw[dz];exact W,by rw[dz];exact(Tr.fz q2 q3).trans X (Nat.le_refl _),by rw[dM];exact Nat.le_refl _,by simp[aq,aO,undef,au]⟩
       ·cases R
     ·simp[Q.run]at r
   ·simp[Q.run]at r
  ·simp[Q.run]at r
 ·simp[Q.run]at r
end
end Go.Ev
namespace Go.Ev
open Go
theorem CZ(D:Nat): ∀(r c:Nat),c≤D+(D+768)/4→Builtin.growBy D r c≤D+(D+768)/4
 |0,c,h=>by simpa[Builtin.growBy]using h
 |r+1,c,h=>by
  simp only[Builtin.growBy]
  split
  ·exact h
  ·exact CZ D r _ zZ
theorem aa1(Ei ZQ:Nat)(h:ZQ<Ei):Builtin.nextslicecap Ei ZQ≤2*Ei+192:=by
 grind [Builtin.nextslicecap,CZ]
theorem PG{Ei ZQ bytes:Nat}(h:ZQ<Ei)(r:Ei*bytes≤1099511627776)(h0:bytes≠0):Builtin.nextslicecap Ei ZQ*bytes≤281474976710656:=by
 have h1:=Nat.mul_le_mul_right bytes (aa1 Ei ZQ h)
 have h2:bytes≤Ei*bytes:=Nat.le_mul_of_pos_left bytes zZ
 grind
section
variable{P:Program}{B:eH}{st:St}{a:Act}{w:World}{β:aN}{M:MSet}{o:Oper}{v:T}{ups:List Up}
theorem BV(h:aZ B st w β M){sz nx n:Nat}{x:T}{cx:Value}{xs:List T}(K:aq β st.gens w M x cx)(r:(cp sz x).run st.get nx=some (n,xs)):
  ∃news:List Value,(∀w':World,w'.heap=w.heap→(Builtin.lenOf cx).run P w'= .ok n w'∧(Builtin.firstCells sz n cx).run P w'= .ok news.toArray w')∧PList w M xs news∧xs.all single=true∧xs.length=n*sz:=by
 unfold cp at r
 split at r
 ·simp[Q.run]at r;obtain⟨rfl,rfl⟩:=r
  simp_all[aq,Builtin.lenOf,Builtin.firstCells,PList]
 ·rename_i cs len ex
  split at r
  ·rename_i O
   simp[Q.run]at r;obtain⟨rfl,rfl⟩:=r
   simp only[aq,PRel]at K
   obtain⟨R,off,U,sp,rfl,h1,h2,h5,h3⟩:=K
   obtain⟨V,e1,e2,e3,e4⟩:=PCells.load (P:=P) h3
   refine⟨V,fun w' X=>⟨by simp[Builtin.lenOf], ?_⟩,e3,e4,O⟩
   have:=run_loadCells_list (P:=P) w' ⟨R,off,sp⟩ V (fun j u F=>by
    rcases h5 with h5|h5
    ·grind [World.cell?,dG]
    ·exfalso
     have hz:len=0:=zZ
     have h0:V= []:=List.length_eq_zero_iff.1 (by rw[e1,O,hz,Nat.zero_mul])
     subst h0;simp at F)
   rw[e1,O]at this
   simp[Builtin.firstCells,this]
  ·simp[Q.run]at r
 ·rename_i sp k g off len H
  split at r
  ·rename_i I
   subst I
   simp only[Q.run]at r
   split at r
   ·rename_i Y
    have Z:=h.obj sp k
    generalize he:st.get sp k=en at*
    obtain⟨N,ob⟩:=en
    dsimp only at Y;subst Y
    cases ob with
    |none=>simp[Q.run]at r
    |map _ _ _=>simp[Q.run]at r
    |cells cs wm bx=>
     cases bx with
     |true=>simp[Q.run]at r
     |false=>
      dsimp only at r
      split at r
      ·rename_i hle
       simp[Q.run]at r;obtain⟨rfl,rfl⟩:=r
       unfold dF at Z
       obtain⟨c,el,fz,h1,h2,h3,h4,h5,h6,h7,h8⟩:=Z
       dsimp only at h1 h2 h3 h5
       simp only[aq]at K
       obtain⟨q1,U,rfl,q2,q3⟩:=K
       have PE:=PList.take (len*H) (PList.drop off h5)
       rw[List.drop_take,List.drop_drop,List.take_take]at PE
       have W:min (len*H) (cs.length-off)=len*H:=zZ
       rw[W]at PE
       have D:((cs.drop off).take (len*H)).length=len*H:=by simp;omega
       refine⟨(c.toList.drop ((β sp k N).off+off)).take (len*H),fun w' X=>⟨by simp[Builtin.lenOf], ?_⟩,PE,gn h7 _ _,D⟩
       have yp:=PList.length _ _ PE
       rw[D]at yp
       have:=run_loadCells_list (P:=P) w' ⟨(β sp k N).blk,(β sp k N).off+off,none⟩ ((c.toList.drop ((β sp k N).off+off)).take (len*H)) (fun j u F=>by
        rw[dG]
        rw[List.getElem?_take]at F
        split at F
        ·rw[List.getElem?_drop]at F
         unfold World.cell?;rw[X,h1];simpa using F
        ·cases F)
       rw[←yp]at this
       simp[Builtin.firstCells,this]
      ·simp[Q.run]at r
   ·simp[Q.run]at r
  ·simp[Q.run]at r
 ·rename_i l
  split at r
  ·rename_i I
   subst I
   simp[Q.run]at r;obtain⟨rfl,rfl⟩:=r
   obtain⟨J,rfl,rfl⟩:=K.str
   refine⟨J.data.toList.map fun b=> .int .u8 b.toNat,fun w' _=>⟨by simp[Builtin.lenOf,fu], ?_⟩, ?_, ?_,by simp⟩
   ·have e1:(J.extract 0 J.size).data=J.data:=by
     apply Array.ext'
     rw[ByteArray.data_extract,Array.toList_extract,List.extract_eq_take_drop]
     rw[List.drop_zero]
     exact List.take_of_length_le (by show J.data.toList.length≤J.data.size-0;simp)
    simp only[Builtin.firstCells,fu,e1,Sem.run_pure]
    congr 1
    apply Array.ext';simp
   ·unfold bytesN
    rw[List.map_map]
    generalize J.data.toList=l
    induction l with
    |nil=>simp[PList]
    |cons b l ih=>simp only[List.map_cons,PList];exact⟨_,_,rfl,by simp[PRel],ih⟩
   ·rw[List.all_eq_true];intro x hx;simp at hx;obtain⟨_,_,rfl⟩:=hx;rfl
  ·simp[Q.run]at r
 ·simp[Q.run]at r
theorem HM{t u ty e:TypeId}{D:TypeDesc}{i:TypeInfo}{z:Value}(K:P.underlying t=some (.slice e))(N:P.underlying u=some D)(F:D= .string∨ ∃J,D= .slice J)(hi:P.info? e=some i)(O:i.zero=some z)
  {base:Option Addr} {dL gh n:Nat} {cx:Value} {uu news:List Value} (R:(Builtin.lenOf cx).run P w= .ok n w) (C0:(Builtin.firstCells i.size n cx).run P w.drew= .ok news.toArray w.drew) (r:(Builtin.firstCells i.size dL (.slice base dL gh)).run P w.drew= .ok uu.toArray w.drew)
  (U:gh<dL+n) (V:(dL+n)*i.bytes≤1099511627776) (h0:i.bytes≠0):
  (Builtin.append_ #[t,u] ty #[.slice base dL gh,cx]).run P w= .ok (.slice (some ⟨w.heap.size,0,none⟩) (dL+n) (grownCap w (dL+n) gh e))
     (w.drew.alloc (.cells (uu.toArray++news.toArray++Builtin.zeroCells z.cells (grownCap w (dL+n) gh e-(dL+n))) e)):=by
 have H: ¬(dL+n≤gh):=zZ
 have W:dL+n≤(dL+n)*i.bytes:=Nat.le_mul_of_pos_right _ zZ
 have X: ¬(9223372036854775807<((dL:Int)+(n:Int))):=zZ
 have I: ¬(281474976710656<Builtin.nextslicecap (dL+n) gh*i.bytes):=by have:=PG U V h0;omega
 rcases F with rfl|⟨J,rfl⟩ <;>
 ·simp[Builtin.append_,run_underlying K,run_underlying N,sizeOf,typeInfo,zeroValue,hi,O,R,H,X,I,Question.forced,C0,r,newRow,grownCap]
  grind
theorem pW{t u ty e:TypeId}{D:TypeDesc}{i:TypeInfo}(H:P.underlying t=some (.slice e))(I:P.underlying u=some D)(F:D= .string∨ ∃J,D= .slice J)(hi:P.info? e=some i)
  {base:Option Addr} {dL gh n:Nat} {cx:Value} {news:List Value} {w':World} (K:(Builtin.lenOf cx).run P w= .ok n w) (C0:(Builtin.firstCells i.size n cx).run P w= .ok news.toArray w)
  (N:dL+n≤gh) (r:match base with|some O=>(storeCells (O.add (dL*i.size)) news).run P w= .ok () w'|none=>w'=w):
  (Builtin.append_ #[t,u] ty #[.slice base dL gh,cx]).run P w= .ok (.slice base (dL+n) gh) w':=by
 rcases F with rfl|⟨J,rfl⟩ <;>
 ·cases base with
  |none=>
   dsimp only at r;subst r
   simp[Builtin.append_,run_underlying H,run_underlying I,sizeOf,typeInfo,hi,K,N,C0]
  |some O=>
   dsimp only at r
   simp[Builtin.append_,run_underlying H,run_underlying I,sizeOf,typeInfo,hi,K,N,C0,r]
theorem aa2{bx:Bool}(h:aZ B st w β M)(el:TypeId)(c:Array Value)(cs:List T)(r:Nat)(sp:Sp)(k g:Nat)(F:st.gens sp k<g)
  (H:PList w M cs (c.toList.take cs.length)) (hs:cs.all single=true) (D:cs.length≤c.size) (HH:r≤cs.length):
  aZ B (st.up (sp,k,⟨g,.cells cs r bx⟩)) (w.alloc (.cells c el)) (gm β sp k g ⟨w.heap.size,0,c.size⟩) (fun b x=>M b x∨b=w.heap.size)∧
  Tr st w β M (st.up (sp,k,⟨g,.cells cs r bx⟩)) (w.alloc (.cells c el)) (gm β sp k g ⟨w.heap.size,0,c.size⟩) (fun b x=>M b x∨b=w.heap.size):=by
 refine Uo h sp k g F (.cells c el) c.size (.cells cs r bx) ?_
 unfold dF
 simp only[bK]
 refine⟨c,el,(0,0),by rw[heap_alloc,if_pos rfl],by omega,D,rfl, ?_,fun j _ _=>Or.inr (by trivial),hs,HH⟩
 simp only[List.drop_zero]
 exact jC.ofP (PList.mono (ou w M _) _ _ H)
variable(dC:jE β st.gens w M st.rho a.eval)(h:aZ B st w β M)
include dC h
theorem ajy{d:Nat}{sh nm:Bool}{c:Call}{t u e:TypeId}{ud:TypeDesc}{i:TypeInfo}{z:Value}{s x:Operand}{s' x':aP}(ho:o.op= .call c)(hb:c.callee= .builtin .append)(W:c.argTypes.toList= [t,u])(has:c.args.toList= [s,x])
  (ht:P.underlying t=some (.slice e)) (I:P.underlying u=some ud) (X:ud= .string∨ ∃e',ud= .slice e') (hi:P.info? e=some i) (hz:i.zero=some z) (hsz:i.size=z.cells.size) (h0:i.size≠0) (hby:i.bytes≠0) (hs:eD s=some s') (hx:eD x=some x')
  (D:(bt d st.rho (.app i.size i.bytes s' x' sh nm)).run st.get st.sh.length=some (.val v ups)):dP P B st a w β M o v ups:=by
 have U:=dC s s' hs
 have vx:=dC x x' hx
 have hty:c.argTypes= #[t,u]:=by apply Array.ext';simp[W]
 have N: ∀cv w',(Builtin.append_ #[t,u] o.type #[a.eval s,a.eval x]).run P w= .ok cv w'→(execOp a.eval o).run P w= .ok (.value cv) w':=by
  intro cv w' hr
  rw[dJ ho hb,aaP has,hty]
  simp[builtin,hr]
 simp only[bt,jA,Q.run_bind]at D
 cases eY:(cp i.size (st.rho x')).run st.get st.sh.length with
 |none=>grind
 |some p=>
  obtain⟨n,xs⟩:=p
  simp only[eY,Option.bind_some]at D
  obtain⟨news,uv,n1,n2,n3⟩:=BV (P:=P) h vx eY
  have KG:news.length=n*i.size:=by rw[←PList.length _ _ n1,n3]
  by_cases ZS:n=0
  ·rw[if_pos ZS]at D
   subst ZS
   have C0:news= []:=by apply List.eq_nil_of_length_eq_zero;simpa using KG
   subst C0
   have same: ∀base dL gh,a.eval s= .slice base dL gh→dL≤gh→dP P B st a w β M o (st.rho s') []:=by
    intro base dL gh V hle
    refine aR h (cv:= .slice base dL gh) ?_ (by rw[←V];exact U)
    have:=pW (P:=P) (w:=w) (w':=w) (t:=t) (u:=u) (ty:=o.type) (base:=base) (dL:=dL) (gh:=gh) (cx:=a.eval x) (n:=0) (news:= []) ht I X hi (uv w rfl).1 (uv w rfl).2 zZ (by cases base <;> simp[storeCells])
    exact N _ _ (by rw[V];exact this)
   grind [Q.run,aq,PRel]
  ·rw[if_neg ZS]at D
   have hz0:z.cells.size≠0:=zZ
   have O: ∀(bx:Bool) (base:Option Addr) (dL gh:Nat) (uu:List Value) (Y:List T) (sp:Sp) (k g wm:Nat),a.eval s= .slice base dL gh→gh<dL+n→(dL+n)*i.bytes≤1099511627776→PList w M Y uu→Y.all single=true→Y.length=dL*i.size→
     (Builtin.firstCells i.size dL (.slice base dL gh)).run P w.drew= .ok uu.toArray w.drew→st.gens sp k<g→wm≤Y.length→dP P B st a w β M o (.isl sp k g 0 (dL+n) i.size) [(sp,k,⟨g,.cells (Y++xs) wm bx⟩)]:=by
    intro bx base dL gh uu Y sp k g wm V hlt J ho1 ho2 ho3 hfc hg HH
    have hr:=HM (P:=P) (w:=w) (t:=t) (u:=u) (ty:=o.type) (base:=base) (dL:=dL) (gh:=gh) (cx:=a.eval x) (n:=n) (uu:=uu) (news:=news) ht I X hi hz (uv w rfl).1 (uv w.drew rfl).2 hfc hlt J hby
    obtain⟨hd1,hd2⟩:=Eb h (w.drawn+1)
    have hol:uu.length=dL*i.size:=by rw[←PList.length _ _ ho1,ho3]
    have zR:=grownCap_ge w (dL+n) gh e
    have hcs:(uu.toArray++news.toArray++Builtin.zeroCells z.cells (grownCap w (dL+n) gh e-(dL+n))).size=grownCap w (dL+n) gh e*i.size:=by
     rw[Array.size_append,Array.size_append,size_zeroCells]
     simp only[List.size_toArray,hol,KG,←hsz]
     rw[←Nat.add_mul,←Nat.add_mul];congr 1;omega
    have F:(Y++xs).length=uu.length+news.length:=by simp[ho3,n3,hol,KG]
    obtain⟨r1,r2⟩:=aa2 (bx:=bx) hd1 e (uu.toArray++news.toArray++Builtin.zeroCells z.cells (grownCap w (dL+n) gh e-(dL+n))) (Y++xs) wm sp k g hg (by
     have:(uu.toArray++news.toArray++Builtin.zeroCells z.cells (grownCap w (dL+n) gh e-(dL+n))).toList.take (Y++xs).length=uu++news:=by
      rw[F]
      simp only[Array.toList_append,List.toList_toArray]
      rw[List.take_append_of_le_length zP]
      exact List.take_of_length_le zP
     rw[this]
     exact PList.mono hd2.keep _ _ (PList.append ho1 n1)) (by simp only[List.all_append,Bool.and_eq_true];exact⟨ho2,n2⟩) (by
     rw[hcs,F,hol,KG,←Nat.add_mul];exact Nat.mul_le_mul_right _ zR) (by simp;omega)
    refine⟨_,_,_,_,_,N _ _ (by rw[V];exact hr),.inl rfl,r1,hd2.trans r2 (Nat.le_refl _), ?_, ?_⟩
    ·show w.heap.size≤(w.heap.push _).size;simp
    ·simp only[aq]
     refine⟨by simp[St.ups,dX],grownCap w (dL+n) gh e, ?_,zR, ?_⟩
     ·rw[bK]
     ·rw[bK,hcs];exact Nat.le_of_eq (Nat.zero_add _)
   split at D
   ·rename_i V
    rw[V]at U;simp only[aq]at U
    split at D
    ·rename_i J
     unfold roomy at J
     obtain⟨sp,k,g,rfl,rfl,hg,_⟩:=jj D
     have:=O (nm&& !sh) none 0 0 [] [] sp k g 0 U zZ (by simpa using J) (by simp[PList]) rfl zP (by simp[Builtin.firstCells]) hg (Nat.zero_le _)
     simpa using this
    ·simp[Q.run]at D
   ·rename_i cs len V
    rw[V]at U;simp only[aq,PRel]at U
    obtain⟨blk,off,H,dk,e1,e2,e3,e5,e4⟩:=U
    have:=e3 trivial;subst this
    split at D
    ·rename_i J
     simp at J
     unfold roomy at J
     obtain⟨sp,k,g,rfl,rfl,hg,_⟩:=jj D
     obtain⟨ol,f1,f2,f3,f4⟩:=PCells.load (P:=P) e4
     refine O false _ _ _ ol cs sp k g 0 e1 zZ J.2 f3 f4 J.1 ?_ hg (Nat.zero_le _)
     have:=run_loadCells_list (P:=P) w.drew ⟨blk,off,dk⟩ ol (fun j u I=>by
      rcases e5 with e5|e5
      ·subst e5
       rw[dG];have:=f2 j u I;unfold World.cell? at this ⊢; exact this
      ·exfalso
       have h0:ol= []:=List.length_eq_zero_iff.1 (by rw[f1,J.1,e5,Nat.zero_mul])
       subst h0;simp at I)
     rw[f1,J.1]at this
     simp[Builtin.firstCells,this]
    ·simp[Q.run]at D
   ·rename_i sp k g off len sz V
    rw[V]at U;simp only[aq]at U
    obtain⟨q1,H,e1,e2,e3⟩:=U
    split at D
    ·rename_i J
     simp at J
     unfold roomy at J
     obtain⟨⟨rfl,rfl⟩,J⟩:=J
     simp only[Q.run]at D
     split at D
     ·rename_i hg
      have xW:=h.obj sp k
      generalize he:st.get sp k=en at*
      obtain⟨r,ob⟩:=en
      dsimp only at hg;subst hg
      cases ob with
      |none=>simp[Q.run]at D
      |map _ _ _=>simp[Q.run]at D
      |cells cs wm bx=>
       cases bx with
       |true=>simp[Q.run]at D
       |false=>
        dsimp only at D
        split at D
        ·rename_i F
         simp[Q.run]at D;obtain⟨rfl,rfl⟩:=D
         unfold dF at xW
         obtain⟨K,el,fz,h1,h2,h3,h4,h5,h6,h7,h8⟩:=xW
         dsimp only at h1 h2 h3 h4 h5 h6
         subst h4
         have C1:st.gens sp k=r:=by show(st.get sp k).g=r;rw[he]
         by_cases KH:len+n≤H
         ·have UE:(len+n)*i.size≤H*i.size:=Nat.mul_le_mul_right _ KH
          rw[Nat.add_mul]at UE
          have UB:=au.one (PList.toV β st.gens _ _ n1) n2
          have Z:=run_storeCells_at P (β sp k r).blk ((β sp k r).off+len*i.size) el news 0 K w h1 zZ UB
          rw[jW h1]at Z
          simp only[Nat.add_zero]at Z
          rw[zX _ _ _ (by simp;omega)]at Z
          have hr:=pW (P:=P) (w:=w) (t:=t) (u:=u) (ty:=o.type) (base:=some ⟨(β sp k r).blk,(β sp k r).off+0,none⟩) (dL:=len) (gh:=H) (cx:=a.eval x) (n:=n) (news:=news) ht I X hi (uv w rfl).1 (uv w rfl).2 KH (by
           dsimp only;rw[dG];simpa using Z)
          have R:=uo h he (r+1) (Nat.le_succ _) h1 (len*i.size) news (cs++xs) zZ zZ (by simp;omega) (by simp[n3];omega) (by simp only[List.all_append,Bool.and_eq_true];exact⟨h7,n2⟩) (by
           show PList w M _ _
           have h5:PList w M cs _:=h5
           have:(splice (K.toList.drop (β sp k r).off) (len*i.size) news).take (cs++xs).length=(K.toList.drop (β sp k r).off).take cs.length++news:=by
            rw[←zX _ _ _ (by simp;omega),F,List.take_append_of_le_length (by simp[n3,KG];omega)]
            exact List.take_of_length_le (by simp[n3,KG];omega)
           rw[this]
           exact PList.append h5 n1)
          refine⟨_,_,_,_,_,N _ _ (by rw[e1];exact hr),.inl rfl,R.1,R.2,by rw[dM];exact Nat.le_refl _, ?_⟩
          simp only[aq]
          refine⟨by simp[St.ups,dX],H,by rw[bK],KH,by rw[bK];exact e3⟩
         ·have PE:PList w M cs ((K.toList.drop (β sp k r).off).take cs.length):=h5
          refine O false _ len H ((K.toList.drop (β sp k r).off).take cs.length) cs sp k (r+1) wm e1 zZ J PE h7 F.symm ?_ (by rw[C1];omega) h8
          have yp:=PList.length _ _ PE
          have:=run_loadCells_list (P:=P) w.drew ⟨(β sp k r).blk,(β sp k r).off+0,none⟩ ((K.toList.drop (β sp k r).off).take cs.length) (fun j u I=>by
           rw[dG]
           rw[List.getElem?_take]at I
           split at I
           ·rw[List.getElem?_drop]at I
            unfold World.cell?
            show(match w.heap[(β sp k r).blk]? with|some (.cells c _ _)=>if(none:Option Nat).isSome then none else c[(β sp k r).off+0+j]? |_=>none)=some u
            rw[h1];simpa using I
           ·cases I)
          rw[←yp]at this
          simp only[Builtin.firstCells]
          rw[F]
          exact this
        ·split at D
         ·rename_i hpt
          simp only[Bool.and_eq_true,decide_eq_true_eq]at hpt
          obtain⟨⟨⟨rfl,rfl⟩,F⟩,xZ⟩:=hpt
          simp[Q.run]at D;obtain⟨rfl,rfl⟩:=D
          unfold dF at xW
          obtain⟨K,el,fz,h1,h2,h3,h4,h5,h6,h7,h8⟩:=xW
          dsimp only at h1 h2 h3 h4 h5 h6
          subst h4
          have C1:st.gens sp k=r:=by show(st.get sp k).g=r;rw[he]
          have PE:PList w M cs ((K.toList.drop (β sp k r).off).take cs.length):=h5
          have h5t:PList w M (cs.take (len*i.size)) ((K.toList.drop (β sp k r).off).take (len*i.size)):=by
           have:=PList.take (len*i.size) PE
           rwa [List.take_take,Nat.min_eq_left zZ]at this
          have C2:(cs.take (len*i.size)).length=len*i.size:=by rw[List.length_take];omega
          have W:(cs.take (len*i.size)).all single=true:=List.all_eq_true.2 fun x hx=>List.all_eq_true.1 h7 x (List.mem_of_mem_take hx)
          by_cases KH:len+n≤H
          ·have UE:(len+n)*i.size≤H*i.size:=Nat.mul_le_mul_right _ KH
           rw[Nat.add_mul]at UE
           have UB:=au.one (PList.toV β st.gens _ _ n1) n2
           have Z:=run_storeCells_at P (β sp k r).blk ((β sp k r).off+len*i.size) el news 0 K w h1 zZ UB
           rw[jW h1]at Z
           simp only[Nat.add_zero]at Z
           rw[zX _ _ _ (by simp;omega)]at Z
           have hr:=pW (P:=P) (w:=w) (t:=t) (u:=u) (ty:=o.type) (base:=some ⟨(β sp k r).blk,(β sp k r).off+0,none⟩) (dL:=len) (gh:=H) (cx:=a.eval x) (n:=n) (news:=news) ht I X hi (uv w rfl).1 (uv w rfl).2 KH (by
            dsimp only;rw[dG];simpa using Z)
           have R:=uo h he (r+1) (Nat.le_succ _) h1 (len*i.size) news (cs.take (len*i.size)++xs) xZ zZ (by rw[List.length_append,C2];omega) (by rw[List.length_append,C2,n3];omega) (by simp only[List.all_append,Bool.and_eq_true];exact⟨W,n2⟩) (by
            show PList w M _ _
            have:(splice (K.toList.drop (β sp k r).off) (len*i.size) news).take (cs.take (len*i.size)++xs).length=(K.toList.drop (β sp k r).off).take (len*i.size)++news:=by
             have hl9:len*i.size+news.length≤(K.toList.drop (β sp k r).off).length:=by simp;omega
             rw[←zX _ _ _ (by simp;omega),List.length_append,C2,n3,←KG]
             rw[List.take_append_of_le_length (by simp;omega)]
             exact List.take_of_length_le (by simp;omega)
            rw[this]
            exact PList.append h5t n1)
           refine⟨_,_,_,_,_,N _ _ (by rw[e1];exact hr),.inl rfl,R.1,R.2,by rw[dM];exact Nat.le_refl _, ?_⟩
           simp only[aq]
           refine⟨by simp[St.ups,dX],H,by rw[bK],KH,by rw[bK];exact e3⟩
          ·refine O false _ len H ((K.toList.drop (β sp k r).off).take (len*i.size)) (cs.take (len*i.size)) sp k (r+1) wm e1 zZ J h5t W C2 ?_ (by rw[C1];omega) (by rw[C2];exact xZ)
           have yp:=PList.length _ _ h5t
           rw[C2]at yp
           have:=run_loadCells_list (P:=P) w.drew ⟨(β sp k r).blk,(β sp k r).off+0,none⟩ ((K.toList.drop (β sp k r).off).take (len*i.size)) (fun j u I=>by
            rw[dG]
            rw[List.getElem?_take]at I
            split at I
            ·rw[List.getElem?_drop]at I
             unfold World.cell?
             show(match w.heap[(β sp k r).blk]? with|some (.cells c _ _)=>if(none:Option Nat).isSome then none else c[(β sp k r).off+0+j]? |_=>none)=some u
             rw[h1];simpa using I
            ·cases I)
           rw[←yp]at this
           simp only[Builtin.firstCells]
           exact this
         ·simp[Q.run]at D
     ·simp[Q.run]at D
    ·simp[Q.run]at D
   ·simp[Q.run]at D
end
end Go.Ev
namespace Go.Ev
open Go
theorem aa3{P:Program}{β:aN}{G:Sp→Nat→Nat}{w:World}{M:MSet}{s t e:TypeId}{k:Nat}{ex:Bool}{v:Value}(hs:P.underlying s=some (.slice e))(J:P.underlying e=some (.int .u8))(K:P.underlying t=some .string)(H:aq β G w M (.sl [.i .u8 (k:Int)] 1 ex) v)(hk:k<256):
  ∃I,(convert s t v).run P w= .ok (.string I) w∧bytesN I= [k]:=by
 simp only[aq,PRel,PCells]at H
 obtain⟨r,off,N,sp,rfl,h1,h2,h3,⟨u,h4,h5,rfl,h6⟩,_⟩:=H
 have D:sp=none:=h3.resolve_right zZ
 subst D
 have:=run_loadCells_list (P:=P) w ⟨r,off,none⟩ [.int .u8 k] (fun j u F=>by
  cases j with
  |zero=>simp at F;subst F;rw[dG];exact h4
  |succ j=>simp at F)
 simp only[List.length_cons,List.length_nil,Nat.zero_add]at this
 refine⟨ByteArray.empty.push (UInt8.ofNat k), ?_, ?_⟩
 ·simp[convert,run_underlying hs,run_underlying K,run_underlying J,Conv.bytesToString,this]
 ·have:(UInt8.ofNat k).toNat=k:=by simp[UInt8.toNat_ofNat'];omega
  show [(UInt8.ofNat k).toNat]= [k]
  rw[this]
section
variable{P:Program}{B:eH}{st:St}{a:Act}{w:World}{β:aN}{M:MSet}{o:Oper}{v:T}{ups:List Up}
theorem lD{x:Option T}{h:Sp→Nat→ah}{nx:Nat}(r:(Ev.val x).run h nx=some (.val v ups)):x=some v∧ups= []:=by
 cases x with
 |none=>simp[Ev.val,Q.run]at r
 |some y=>grind [Ev.val,Q.run]
theorem aa4(dC:jE β st.gens w M st.rho a.eval)(h:aZ B st w β M){c:Call}(r:o.op= .call c){sh:Nat}{J9:lX}{d:Nat}(hc:nh P sh c=some J9)
  (D:(bt d st.rho J9).run st.get st.sh.length=some (.val v ups)):dP P B st a w β M o v ups:=by
 unfold nh at hc
 split at hc
 ·grind [Option.map_eq_some_iff,bt,Q.run]
 ·grind [bt,Q.run]
 ·grind [bt,Q.run,aaQ,aaR,aaS,aaT]
 ·rename_i F
  split at hc
  ·rename_i t u x y h1 h2
   split at hc
   ·grind [ajy]
   ·cases hc
  ·cases hc
 ·grind [Option.map_eq_some_iff,ag2]
 ·grind [Option.map_eq_some_iff,ag2]
 ·cases hc
theorem ajA(dC:jE β st.gens w M st.rho a.eval)(h:aZ B st w β M){s t e:TypeId}{x:Operand}{r:aP}(H:o.op= .convert s t x)(hx:eD x=some r)(hs:P.underlying s=some (.slice e))(I:P.underlying e=some (.int .u8))(J:P.underlying t=some .string){k:Nat}{ex:Bool}(K:st.rho r= .sl [.i .u8 (k:Int)] 1 ex)(hk:k<256):dP P B st a w β M o (.s [k]) []:=by
 have D:=dC x r hx
 rw[K]at D
 obtain⟨F,e1,e2⟩:=aa3 hs I J D hk
 exact aR h (cv:= .string F) (by simp[execOp,H,e1]) (by simp only[aq];exact⟨F,rfl,e2⟩)
theorem au4(dC:jE β st.gens w M st.rho a.eval)(h:aZ B st w β M){sh:Nat}{J9:lX}{d:Nat}(hc:cF P sh o.op=some J9)
  (D:(bt d st.rho J9).run st.get st.sh.length=some (.val v ups)):dP P B st a w β M o v ups:=by
 cases Aa:o.op with
 |move x=>
  grind [cF,Option.map_eq_some_iff,bt,Q.run,ag1]
 |assign x=>
  rw[Aa]at hc;simp only[cF,Option.map_eq_some_iff]at hc
  obtain⟨y,h1,rfl⟩:=hc
  simp[bt,Q.run]at D;obtain⟨rfl,rfl⟩:=D
  simp_all[ag1]
 |pick c x y=>
  grind [cF,bt,Q.run,aaK]
 |alloc t=>
  grind [cF,Ux]
 |box t x=>
  grind [cF,Option.map_eq_some_iff,ajs]
 |build t J=>
  grind [cF,Option.map_eq_some_iff,Ut]
 |buildSlice t len J=>
  grind [cF,ajv]
 |load t x=>
  grind [cF,auM]
 |store t x y=>
  grind [cF,auW]
 |nilCheck x=>
  grind [cF,Option.map_eq_some_iff,aje]
 |binOp op t x y W=>
  rw[Aa]at hc;simp only[cF]at hc
  split at hc
  ·rename_i X Y h1 h2
   split at hc
   ·rename_i hk
    simp at hc;subst hc
    obtain⟨e1,rfl⟩:=lD D
    simp only[Option.map_eq_some_iff]at e1
    obtain⟨r,e2,rfl⟩:=e1
    exact MW (neg:=false) dC h Aa h1 h2 (by have:=oy hk;simp[zL,this]) zP e2
   ·rename_i hk
    simp at hc;subst hc
    obtain⟨e1,rfl⟩:=lD D
    simp only[Option.map_eq_some_iff]at e1
    obtain⟨r,e2,rfl⟩:=e1
    exact MW (neg:=true) dC h Aa h1 h2 (by have:=oy hk;simp[zL,this]) zP e2
   ·simp at hc;subst hc
    obtain⟨e1,rfl⟩:=lD D
    grind [ajf]
   ·rename_i hk
    simp only[Option.map_eq_some_iff]at hc
    obtain⟨k,h3,rfl⟩:=hc
    obtain⟨e1,rfl⟩:=lD D
    simp only[Option.map_eq_some_iff]at e1
    obtain⟨r,e2,rfl⟩:=e1
    refine MW (neg:=false) dC h Aa h1 h2 h3 ?_ e2
    have H:=lA h3
    grind
   ·rename_i hk
    simp only[Option.map_eq_some_iff]at hc
    obtain⟨k,h3,rfl⟩:=hc
    obtain⟨e1,rfl⟩:=lD D
    simp only[Option.map_eq_some_iff]at e1
    obtain⟨r,e2,rfl⟩:=e1
    refine MW (neg:=true) dC h Aa h1 h2 h3 ?_ e2
    have H:=lA h3
    grind
   ·cases hc
  ·cases hc
 |unOp op t x=>
  rw[Aa]at hc;simp only[cF,Option.map_eq_some_iff]at hc
  obtain⟨y,h1,rfl⟩:=hc
  obtain⟨e1,rfl⟩:=lD D
  grind [auL]
 |convert s t x=>
  rw[Aa]at hc;simp only[cF]at hc
  split at hc
  ·grind [bt,Q.run,ajh]
  ·rename_i e y h1 h2 h3
   split at hc
   ·rename_i h4
    simp at hc;subst hc
    simp only[bt]at D
    split at D
    ·rename_i k ex h5
     split at D
     ·rename_i hk
      simp[Q.run]at D;obtain⟨rfl,rfl⟩:=D
      exact ajA dC h Aa h3 h1 h4 h2 h5 hk
     ·simp[Q.run]at D
    ·simp[Q.run]at D
   ·cases hc
  ·cases hc
 |makeFunc K first N=>
  rw[Aa]at hc
  cases K <;> simp only[cF]at hc <;> try (cases hc;done)
  grind [bt,Q.run,aaN]
 |makeMap t r=>
  rw[Aa]at hc
  cases r <;> simp only[cF]at hc
  ·grind [Uy]
  ·cases hc
 |makeSlice t l c=>
  grind [cF,aaU]
 |slice t x l O m=>
  rw[Aa]at hc;simp only[cF]at hc
  split at hc
  ·rename_i y R U h1 h2 h3 h4 h5
   simp at hc;subst hc
   have I:m=none:=by cases m <;> simp[px]at h5 ⊢
   grind [ajo]
  ·rename_i e y R U Z h1 h2 h3 h4 h5
   split at hc
   ·rename_i n V
    split at hc
    ·rename_i F
     simp at F hc;subst hc
     refine ajp dC h Aa h2 h3 h4 h5 h1 V F.1 ?_ D
     intro I
     rcases F.2 with e1|e1
     ·cases m with
      |none=>simp at I
      |some mm=>grind [px,Option.map_eq_some_iff]
     ·cases O with
      |none=>grind [px]
      |some _=>rfl
    ·cases hc
   ·cases hc
  ·cases hc
 |fieldAddr s x f=>
  grind [cF,auN]
 |field s x f=>
  grind [cF,ajk]
 |indexAddr t x j=>
  grind [cF,auO,ajn]
 |index t x j=>
  grind [cF,ajm,ajl]
 |lookup t m k ok=>
  grind [cF,auZ]
 |mapUpdate t m k x=>
  grind [cF,Option.map_eq_some_iff,au0]
 |extract x j=>
  rw[Aa]at hc;simp only[cF,Option.map_eq_some_iff]at hc
  obtain⟨y,h1,rfl⟩:=hc
  simp only[bt]at D
  split at D
  ·rename_i vs e
   obtain⟨e1,rfl⟩:=lD D
   grind [aji]
  ·simp[Q.run]at D
 |call c=>grind [cF,aa4]
 |_=>grind [cF]
end
end Go.Ev
