/- A tree evaluator over the model, proved against it (part C): where it answers, the call returns that answer. Conditions: none beyond its theorems' own. -/
import Derived.Test.YtnkgnjecmfkcfaaGreatEvB
import Derived.Laws.Tables
set_option linter.all false
namespace Go.Ev
open Go
def vL{P:Program}{t:TypeId}{z:T}(h:og P t=some z): ∃i r,P.info? t=some i∧i.zero=some r∧BG r=some z:=by
 unfold og at h
 cases hi:P.info? t with
 |none=>simp[hi]at h
 |some i=>
  simp only[hi,Option.bind_some]at h
  cases D:i.zero with
  |none=>simp[D]at h
  |some r=>grind
def E1{P:Program}{t:TypeId}{z:T}(h:og P t=some z)(w:World): ∃r,(zeroValue t).run P w= .ok r w∧ ∀w M,PRel w M z r:=by
 obtain⟨i,r,h1,h2,h3⟩:=vL h
 exact⟨r,by simp[zeroValue,typeInfo,h1,h2],fun w M=>ma h3⟩
def pv{β:aQ}{G:Sp→Nat→Nat}{w:World}{M:MSet}{t:T}{cv:Value}(h:aq β G w M t cv)(r:noTup t=true):av β G w M (cellsOf t) cv.cells.toList∧(cellsOf t).all single=true:=by
 cases t
 case agg cs=>
  simp only[aq]at h
  obtain⟨a,rfl,h1,h2⟩:=h
  exact⟨h1,h2⟩
 case tup cs=>simp[noTup]at r
 case any=>simp[noTup]at r
 all_goals
  have D:=h
  simp only[aq,PRel]at h
  refine⟨?_,rfl⟩
  simp only[cellsOf,av]
  refine⟨cv,[], ?_,D,rfl⟩
  first
   |(subst h;rfl)
   |(obtain⟨_,rfl,_⟩:=h;rfl)
   |(obtain⟨_,_,rfl,_⟩:=h;rfl)
   |(obtain⟨_,_,_,rfl,_⟩:=h;rfl)
   |(obtain⟨_,_,_,_,rfl,_⟩:=h;rfl)
   |(obtain⟨_,rfl⟩:=h;rfl)
def vM{w:World}{M:MSet}{t:T}{cv:Value}(h:PRel w M t cv)(r:noTup t=true):PList w M (cellsOf t) cv.cells.toList∧(cellsOf t).all single=true:=by
 cases t
 case agg cs=>
  simp only[PRel]at h
  obtain⟨a,rfl,h1,h2⟩:=h
  exact⟨h1,h2⟩
 case tup cs=>simp[noTup]at r
 case any=>simp[noTup]at r
 case isl=>simp only[PRel]at h
 case ptr=>simp only[PRel]at h
 case mp=>simp only[PRel]at h
 all_goals
  have D:=h
  simp only[PRel]at h
  refine⟨?_,rfl⟩
  simp only[cellsOf,PList]
  refine⟨cv,[], ?_,D,rfl⟩
  first
   |(subst h;rfl)
   |(obtain⟨_,rfl,_⟩:=h;rfl)
   |(obtain⟨_,_,rfl,_⟩:=h;rfl)
   |(obtain⟨_,_,_,rfl,_⟩:=h;rfl)
   |(obtain⟨_,_,_,_,rfl,_⟩:=h;rfl)
theorem cU{α:Type}: ∀(cs:List α) (off:Nat) (r:List α),(splice cs off r).length=cs.length
 |cs,0,[]=>by grind [splice]
 | [],0,v::r=>by simp[splice]
 |c::cs,0,v::r=>by simp[splice,cU cs 0 r]
 | [],off+1,r=>by simp[splice]
 |c::cs,off+1,r=>by simp[splice,cU cs off r]
theorem mf{α:Type}: ∀(cs:List α) (off:Nat),splice cs off []=cs
 |cs,0=>by grind [splice]
 | [],off+1=>by simp[splice]
 |c::cs,off+1=>by simp[splice,mf cs off]
theorem zD{α:Type}: ∀(cs:List α) (off:Nat) (v:α) (r:List α),splice (cs.set off v) (off+1) r=splice cs off (v::r)
 | [],off,v,r=>by grind [splice]
 |c::cs,0,v,r=>by simp[splice]
 |c::cs,off+1,v,r=>by simp[splice,zD cs off v r]
theorem eX{α:Type}: ∀(cs:List α) (off:Nat) (r:List α) (j:Nat),(splice cs off r)[j]? =if off≤j∧j<off+r.length∧j<cs.length then r[j-off]? else cs[j]?
 |cs,0,[],j=>by rw[mf];simp
 | [],0,v::r,j=>by simp[splice]
 |c::cs,0,v::r,0=>by simp[splice]
 |c::cs,0,v::r,j+1=>by simp[splice,eX cs 0 r j]
 | [],off+1,r,j=>by simp[splice]
 |c::cs,off+1,r,0=>by simp[splice]
 |c::cs,off+1,r,j+1=>by
  simp only[splice,List.getElem?_cons_succ,eX cs off r j,List.length_cons]
  grind
theorem av.splice{β:aQ}{G:Sp→Nat→Nat}{w:World}{M:MSet}: ∀{cs:List T} {r:List Value} {off:Nat} {D:List T} {MT:List Value},av β G w M cs r→av β G w M D MT→av β G w M (splice cs off D) (splice r off MT)
 |cs,r,0,[],MT,h1,h2=>by grind [av,mf]
 | [],r,0,v::D,MT,h1,h2=>by grind [av,Ev.splice]
 |c::cs,r,0,v::D,MT,h1,h2=>by
  simp only[av]at h1 h2
  obtain⟨a,as,rfl,H,F⟩:=h1
  obtain⟨u,us,rfl,I,J⟩:=h2
  simp only[Ev.splice,av]
  exact⟨u,_,rfl,I,av.splice F J⟩
 | [],r,off+1,D,MT,h1,h2=>by simp_all[av,Ev.splice]
 |c::cs,r,off+1,D,MT,h1,h2=>by
  simp only[av]at h1
  obtain⟨a,as,rfl,H,F⟩:=h1
  simp only[Ev.splice,av]
  exact⟨a,_,rfl,H,av.splice F h2⟩
theorem PList.splice{w:World}{M:MSet}: ∀{cs:List T} {r:List Value} {off:Nat} {D:List T} {MT:List Value},PList w M cs r→PList w M D MT→PList w M (splice cs off D) (splice r off MT)
 |cs,r,0,[],MT,h1,h2=>by grind [PList,mf]
 | [],r,0,v::D,MT,h1,h2=>by grind [PList,Ev.splice]
 |c::cs,r,0,v::D,MT,h1,h2=>by
  simp only[PList]at h1 h2
  obtain⟨a,as,rfl,H,F⟩:=h1
  obtain⟨u,us,rfl,I,J⟩:=h2
  simp only[Ev.splice,PList]
  exact⟨u,_,rfl,I,PList.splice F J⟩
 | [],r,off+1,D,MT,h1,h2=>by simp_all[PList,Ev.splice]
 |c::cs,r,off+1,D,MT,h1,h2=>by
  simp only[PList]at h1
  obtain⟨a,as,rfl,H,F⟩:=h1
  simp only[Ev.splice,PList]
  exact⟨a,_,rfl,H,PList.splice F h2⟩
def pw{p:T→Bool}{cs r:List T}{off:Nat}(h1:cs.all p=true)(h2:r.all p=true):(splice cs off r).all p=true:=by
 grind [List.all_eq_true,eX,List.getElem?_of_mem]
theorem yi(off:Nat): ∀(D:List Value) (s:Nat) (r:Array Value),((D.zipIdx s).foldl (fun(cs:Array Value) (p:Value×Nat)=>cs.setIfInBounds (off+p.2) p.1) r).toList=splice r.toList (off+s) D
 | [],s,r=>by simp[mf]
 |v::D,s,r=>by
  simp only[List.zipIdx_cons,List.foldl_cons]
  rw[yi off D (s+1),Array.toList_setIfInBounds,←Nat.add_assoc,zD]
theorem Pz{β:aQ}{G:Sp→Nat→Nat}{w:World}{M:MSet}{place:Nat→Option (Nat×Nat)}: ∀(parts:List (Nat×Value)) (ps:List (Nat×List T)) (F:List T) (D:Array Value) (rs:List T),
  av β G w M F D.toList→F.all single=true→parts.length=ps.length→(∀(j i:Nat) (cv:Value) (off:Nat) (ts:List T),parts[j]? =some (i,cv)→ps[j]? =some (off,ts)→place i=some (off,ts.length)∧av β G w M ts cv.cells.toList∧ts.all single=true)→
  lu F ps=some rs→ ∃rc,Instr.fill place D parts=some rc∧av β G w M rs rc.toList∧rs.all single=true
 | [],ps,F,D,rs,I,hs,r,J,H=>by
   grind [lu,Instr.fill]
 |(i,cv)::parts,ps,F,D,rs,I,hs,r,J,H=>by
  cases ps with
  |nil=>simp at r
  |cons p ps=>
   obtain⟨off,ts⟩:=p
   simp only[lu]at H
   split at H
   ·rename_i N
    obtain⟨W,K,O⟩:=J 0 i cv off ts rfl rfl
    have Mk:=av.length _ _ K
    have UU:=av.length _ _ I
    have U:cv.cells.size=ts.length:=by rw[Mk];simp
    have V:D.size=F.length:=by rw[UU];simp
    have hc: ¬((cv.cells.size≠ts.length||off+cv.cells.size>D.size)=true):=by
     grind
    have e:(cv.cells.zipIdx.foldl (fun(cs:Array Value) (p:Value×Nat)=>cs.setIfInBounds (off+p.2) p.1) D).toList=splice D.toList off cv.cells.toList:=by
     have:=yi off cv.cells.toList 0 D
     grind [Array.toList_zipIdx]
    obtain⟨rc,X,Y,Z⟩:=Pz parts ps (splice F off ts) (cv.cells.zipIdx.foldl (fun(cs:Array Value) (p:Value×Nat)=>cs.setIfInBounds (off+p.2) p.1) D) rs
     (by rw[e];exact av.splice I K) (pw hs O) (by simpa using r) (fun j i cv off ts a b=>J (j+1) i cv off ts (by simpa using a) (by simpa using b)) H
    grind [Instr.fill]
   ·cases H
section
variable{P:Program}{B:eZ}{st:St}{a:Act}{w:World}{β:aQ}{M:MSet}{o:Oper}{v:T}{ups:List Up}
theorem vN{D:List (Nat×Nat)}: ∀{ps:List (Nat×Operand)} {r:List (Nat×Nat×aV)},placesOf D ps=some r→ps.length=r.length∧ ∀(j i:Nat) (x:Operand) (off n:Nat) (y:aV),ps[j]? =some (i,x)→r[j]? =some (off,n,y)→D[i]? =some (off,n)∧eV x=some y
 | [],r,h=>by grind [placesOf]
 |(F,x0)::ps,r,h=>by
  simp only[placesOf]at h
  split at h
  ·rename_i p y H h1 h2 h3
   simp at h;subst h
   obtain⟨a1,a2⟩:=vN h3
   grind
  ·cases h
theorem tq{sz:Nat}: ∀{ps:List (Nat×Operand)} {r:List (Nat×Nat×aV)},lV sz ps=some r→ps.length=r.length∧ ∀(j i:Nat) (x:Operand) (off n:Nat) (y:aV),ps[j]? =some (i,x)→r[j]? =some (off,n,y)→(off=i*sz∧n=sz)∧eV x=some y
 | [],r,h=>by grind [lV]
 |(D,x0)::ps,r,h=>by
  simp only[lV]at h
  split at h
  ·rename_i y F h2 h3
   simp at h;subst h
   obtain⟨a1,a2⟩:=tq h3
   grind
  ·cases h
variable(dS:kD β st.gens w M st.rho a.eval)(h:bh B st w β M)
include dS h
theorem XQ{d nx:Nat}{t:TypeId}{ps:Array (Nat×Operand)}{z:T}{r:List (Nat×Nat×aV)}(ho:o.op= .build t ps)(hz:og P t=some z)
  (N:(∃O F,P.underlying t=some (.struct O)∧O.toList.mapM (fun f=>(P.info? f.type).map fun i=>(f.offset,i.size))=some F∧placesOf F ps.toList=some r)∨(∃n e sz,P.underlying t=some (.array n e)∧eU P e=some sz∧lV sz ps.toList=some r))
  (Gv:noTup z=true) (H:(bB d st.rho (.build (cellsOf z) r)).run st.get nx=some (.val v ups)):eo P B st a w β M o v ups:=by
 obtain⟨i,U,z1,z2,z3⟩:=vL hz
 have V:aq β st.gens w M z U:=PRel.toV _ _ _ _ (ma z3)
 obtain⟨W,X⟩:=pv V Gv
 simp only[bB]at H
 split at H
 ·rename_i bw
  cases Y:lu (cellsOf z) (r.map fun p=>(p.1,cellsOf (st.rho p.2.2)))with
  |none=>simp[Y,Ev.val,Q.run]at H
  |some rs=>
   simp[Y,Ev.val,Q.run]at H;obtain⟨rfl,rfl⟩:=H
   have parts: ∃place:Nat→Option (Nat×Nat),(∀rc,Instr.fill place U.cells (ps.toList.map fun p=>(p.1,a.eval p.2))=some rc→P.built t (ps.map fun(i,x)=>(i,a.eval x)).toList=some rc)∧ps.toList.length=r.length∧
     ∀(j i:Nat) (x:Operand) (off n:Nat) (y:aV),ps.toList[j]? =some (i,x)→r[j]? =some (off,n,y)→place i=some (off,n)∧eV x=some y:=by
    rcases N with⟨O,F,u1,u2,u3⟩|⟨n,e,sz,u1,u2,u3⟩
    ·obtain⟨Z,g2⟩:=vN u3
     refine⟨fun i=>F[i]?,fun rc D=> ?_,Z,g2⟩
     simp only[Program.built,z1,z2,u1,u2,Array.toList_map]
     have:(fun x:Nat=>F.toArray[x]?)=fun i=>F[i]? :=by funext i;simp
     rw[this];exact D
    ·obtain⟨Z,g2⟩:=tq u3
     have: ∃I,P.info? e=some I∧I.size=sz:=by
      simp_all[eU]
     obtain⟨I,v1,v2⟩:=this
     refine⟨fun i=>some (i*I.size,I.size),fun rc D=> ?_,Z,fun j i x off n y J K=> ?_⟩
     ·simp only[Program.built,z1,z2,u1,v1,Array.toList_map];exact D
     ·obtain⟨⟨rfl,rfl⟩,c⟩:=g2 j i x off n y J K
      exact⟨by rw[v2],c⟩
   obtain⟨place,q1,q2,q3⟩:=parts
   obtain⟨rc,r1,r2,r3⟩:=Pz (place:=place) (ps.toList.map fun p=>(p.1,a.eval p.2)) _ (cellsOf z) U.cells rs W X (by simp[q2]) (by
    intro j i cv off ts J K
    rw[List.getElem?_map,Option.map_eq_some_iff]at J K
    obtain⟨⟨i',x⟩,c1,c2⟩:=J
    obtain⟨⟨aGH,n,y⟩,c3,c4⟩:=K
    simp at c2 c4
    obtain⟨rfl,rfl⟩:=c2
    obtain⟨rfl,rfl⟩:=c4
    obtain⟨e1,e2⟩:=q3 j i' x aGH n y c1 c3
    have hv:=dS x y e2
    have XS:=(List.all_eq_true.1 bw) _ (List.mem_of_getElem? c3)
    simp at XS
    obtain⟨k1,k2⟩:=pv hv XS.2
    exact⟨by rw[e1,XS.1],k1,k2⟩) Y
   refine aY h (cv:= .agg rc) ?_ (by simp only[aq];exact⟨rc,rfl,r2,r3⟩)
   have:=run_build (P:=P) w t (ps.map fun(i,x)=>(i,a.eval x)) rc (q1 rc r1)
   simp[execOp,ho,this]
 ·simp[Q.run]at H
end
theorem jS{st:St}{d:Nat}{sh:Bool}{ob:Ob}{f:Sp→Nat→Nat→T}{v:T}{ups:List Up}(h:(jE d sh ob f).run st.get st.sh.length=some (.val v ups)):
  ∃sp k g,v=f sp k g∧ups= [(sp,k,⟨g,ob⟩)]∧st.gens sp k<g∧(sp= .S→sh=true):=by
 grind [jE,Q.run,St.get,EZ,eS]
theorem vO{α:Type}(z:List α): ∀n,(repl z n).length=n*z.length
 |0=>by simp[repl]
 |n+1=>by simp[repl,vO z n,Nat.add_mul];omega
theorem JP{α:Type}(z:List α)(r:z≠ []): ∀(n j:Nat),j<n*z.length→(repl z n)[j]? =z[j%z.length]?
 |0,j,h=>by simp at h
 |n+1,j,h=>by
  have F:0<z.length:=List.length_pos_iff.2 r
  simp only[repl]
  by_cases D:j<z.length
  ·rw[List.getElem?_append_left D,Nat.mod_eq_of_lt D]
  ·rw[List.getElem?_append_right zV,JP z r n (j-z.length) (by rw[Nat.add_mul]at h;omega)]
   grind [Nat.mod_eq_sub_mod]
def BP(z:Array Value)(n:Nat)(r:z.size≠0):((Array.range (n*z.size)).map (fun i=>z[i%z.size]!)).toList=repl z.toList n:=by
 apply List.ext_getElem?
 grind [JP,List.getElem?_eq_none,vO,Nat.mod_lt]
theorem PList.repl{w:World}{M:MSet}{z:List T}{r:List Value}(h:PList w M z r): ∀n,PList w M (Ev.repl z n) (Ev.repl r n)
 |0=>by simp[Ev.repl,PList]
 |n+1=>by simp only[Ev.repl];exact PList.append h (PList.repl h n)
theorem BQ{z:List T}(h:z.all single=true): ∀n,(repl z n).all single=true
 |0=>by simp[repl]
 |n+1=>by simp only[repl,List.all_append,Bool.and_eq_true];exact⟨h,BQ h n⟩
def DU{P:Program}{w:World}{t e:TypeId}{i:TypeInfo}{r:Value}{k:IntKind}{m:Int}(F:P.underlying t=some (.slice e))(hi:P.info? e=some i)(H:i.zero=some r)(I:0≤m)(XT:IntKind.i64.wrap m=m)
  (J:(i.bytes:Int)*m≤281474976710656) (K:m.toNat*i.bytes≤140737488355328):
  (Instr.makeSlice t (.int k m) (.int k m)).run P w= .ok (.slice (some ⟨w.heap.size,0,none⟩) m.toNat m.toNat) (w.alloc (.cells ((Array.range (m.toNat*i.size)).map (fun j=>r.cells[j%r.cells.size]!)) e)):=by
 have h1: ¬(m<0):=zV
 have h2: ¬(281474976710656<(i.bytes:Int)*m):=zV
 have h3: ¬(140737488355328<m.toNat*i.bytes):=zV
 have h4: ¬(m.toNat*i.bytes>roomBytes):=by unfold roomBytes;omega
 simp only[Instr.makeSlice,Sem.run_bind,run_underlying F,Result.andThen_ok,asInt,asIntOf,Sem.run_pure,typeInfo,run_program,hi,XT]
 simp only[h1,decide_false,Bool.false_or,Int.lt_irrefl,gt_iff_lt,Bool.or_false]
 rw[if_neg (by simp;omega)]
 simp only[Sem.run_bind,askRoom,if_neg h4,Sem.run_pure,Result.andThen_ok,sizeOf,typeInfo,run_program,hi]
 by_cases D:m.toNat*i.size=0
 ·rw[if_pos D,D]
  have:Array.range 0= #[]:=rfl
  simp[newRow,this]
 ·rw[if_neg D]
  simp[newRow,zeroValue,typeInfo,hi,H]
section
variable{P:Program}{B:eZ}{st:St}{a:Act}{w:World}{β:aQ}{M:MSet}{o:Oper}{v:T}{ups:List Up}
def yj(h:bh B st w β M)(el:TypeId)(c:Array Value)(cs:List T)(bx:Bool)(sp:Sp)(k g:Nat)(H:st.gens sp k<g)
  (I:ky sp bx β st.gens w M cs (c.toList.take cs.length)) (hs:cs.all single=true) (D:cs.length≤c.size):
  bh B (st.up (sp,k,⟨g,.cells cs 0 bx⟩)) (w.alloc (.cells c el)) (iw β sp k g ⟨w.heap.size,0,c.size⟩) (fun b x=>M b x∨b=w.heap.size)∧
  Tr st w β M (st.up (sp,k,⟨g,.cells cs 0 bx⟩)) (w.alloc (.cells c el)) (iw β sp k g ⟨w.heap.size,0,c.size⟩) (fun b x=>M b x∨b=w.heap.size):=by
 have J: ∀r k' F,F≤st.gens r k'→iw β sp k g ⟨w.heap.size,0,c.size⟩ r k' F=β r k' F:=by
  grind [vG]
 have K: ∀r k',st.gens r k'≤(st.up (sp,k,⟨g,.cells cs 0 bx⟩)).gens r k':=by
  intro r k'
  rw[eD]
  grind
 refine XL h sp k g H (.cells c el) c.size (.cells cs 0 bx) ?_
 unfold dV
 simp only[bN]
 refine⟨c,el,(0,0),by rw[heap_alloc,if_pos rfl],by omega,D,rfl, ?_,fun j _ _=>Or.inr (by trivial),hs,Nat.zero_le _⟩
 simp only[List.drop_zero]
 exact ky.mono (pn w M _) J K I
def Gw{o':Obj}{sp:Sp}{k g:Nat}{ob:Ob}{ext:Nat}{cv:Value}{v:T}(hr:(execOp a.eval o).run P w= .ok (.value cv) (w.alloc o'))
  (r:bh B (st.up (sp,k,⟨g,ob⟩)) (w.alloc o') (iw β sp k g ⟨w.heap.size,0,ext⟩) (fun b x=>M b x∨b=w.heap.size)∧
    Tr st w β M (st.up (sp,k,⟨g,ob⟩)) (w.alloc o') (iw β sp k g ⟨w.heap.size,0,ext⟩) (fun b x=>M b x∨b=w.heap.size))
  (D:aq (iw β sp k g ⟨w.heap.size,0,ext⟩) (st.up (sp,k,⟨g,ob⟩)).gens (w.alloc o') (fun b x=>M b x∨b=w.heap.size) v cv):eo P B st a w β M o v [(sp,k,⟨g,ob⟩)]:=
 ⟨_,cv,_,_,_,hr,.inl rfl,r.1,r.2,by show _≤(w.heap.push o').size;simp,D⟩
def Tr.less{M':MSet}(hs: ∀b x,M' b x→M b x):Tr st w β M st w β M':=⟨dq hs,fun _ _ _ _=>rfl,fun _ _=>Nat.le_refl _⟩
def eo.less{M':MSet}(hs: ∀b x,M' b x→M b x)(h:eo P B st a w β M' o v ups):eo P B st a w β M o v ups:=by
 obtain⟨nx,cv,w',r,M2,h1,h2,h3,h4,h5,h6⟩:=h
 exact⟨nx,cv,w',r,M2,h1,h2,h3,(Tr.less hs).trans h4 (Nat.le_refl _),h5,h6⟩
theorem vQ{l:List Value}{n:Nat}(h:n=l.length):l.take n=l:=by subst h;simp
variable(dS:kD β st.gens w M st.rho a.eval)(h:bh B st w β M)
include h
theorem XU{d:Nat}{sh:Bool}{t:TypeId}{z:T}(H:o.op= .alloc t)(I:og P t=some z)(Gv:noTup z=true)
  (D:(bB d st.rho (.alloc (cellsOf z) sh)).run st.get st.sh.length=some (.val v ups)):eo P B st a w β M o v ups:=by
 simp only[bB]at D
 obtain⟨sp,k,g,rfl,rfl,J,K⟩:=jS D
 obtain⟨N,O,U⟩:=E1 I w
 obtain⟨F,V⟩:=vM (U w M) Gv
 have r:=PList.length _ _ F
 refine Gw (cv:= .pointer (some ⟨w.heap.size,0,none⟩)) ?_ (yj h t N.cells (cellsOf z) true sp k g J (by rw[vQ r];exact ky.ofP F) V (by rw[r];simp)) ?_
 ·simp[execOp,H,Instr.alloc,O,newVar,newRow]
 ·simp[aq,bN,eD]
include dS
theorem anG{d:Nat}{sh:Bool}{t:TypeId}{x:Operand}{H:aV}(X:o.op= .box t x)(hx:eV x=some H)
  (r:(bB d st.rho (.box H sh)).run st.get st.sh.length=some (.val v ups)):eo P B st a w β M o v ups:=by
 have Y:=dS x H hx
 simp only[bB]at r
 split at r
 ·simp[Q.run]at r
 ·rename_i DE
  simp at DE
  have I: ∀(M':MSet) (D:T),bh B st w β M'→noTup D=true→ ∀sp k g,st.gens sp k<g→(match sp with| .L=>aq β st.gens w M' D (a.eval x)| .S=>po true β st.gens w M' D (a.eval x))→eo P B st a w β M' o (.ptr sp k g 0) [(sp,k,⟨g,.cells (cellsOf D) 0 true⟩)]:=by
   intro M' D Z DE sp k g J ht
   have K:aq β st.gens w M' D (a.eval x):=by
    grind [po.toV]
   obtain⟨U,c2⟩:=pv K DE
   have F:=av.length _ _ U
   refine Gw (cv:= .pointer (some ⟨w.heap.size,0,none⟩)) ?_ (yj Z t (a.eval x).cells (cellsOf D) true sp k g J (by
    rw[vQ F]
    cases sp
    ·exact U
    ·exact fun ba G' p q=>(pv (ht ba G' p q) DE).1) c2 (by rw[F];simp)) ?_
   ·simp[execOp,X,Instr.box,newVar,newRow]
   ·simp[aq,bN,eD]
  split at r
  ·simp only[Q.run_bind]at r
   cases N:(fz true aJ (st.rho H)).run st.get st.sh.length with
   |none=>simp[N]at r
   |some p=>
    obtain⟨D,us⟩:=p
    simp only[N,Option.bind_some]at r
    split at r
    ·rename_i V
     simp at V
     obtain⟨rfl,O⟩:=V
     obtain⟨sp,k,g,rfl,rfl,J,hgs⟩:=jS r
     obtain⟨M',q1,q2,q3,W,q5⟩:=zr true st aJ (st.rho H) B st w β M _ D [] _ (Fz.refl st) h Y N
     exact eo.less q3 (I M' D q1 O sp k g J (by cases sp;exact W.toV;exact W))
    ·simp[Q.run]at r
  grind [jS]
omit dS in
theorem XV{d:Nat}{sh:Bool}{t:TypeId}(D:o.op= .makeMap t none)(r:(bB d st.rho (.mkmap sh)).run st.get st.sh.length=some (.val v ups)):eo P B st a w β M o v ups:=by
 simp only[bB]at r
 obtain⟨sp,k,g,rfl,rfl,F,H⟩:=jS r
 refine Gw (ext:=0) (cv:= .map (some w.heap.size)) (o':= .map #[] 0) ?_ (XL h sp k g F (.map #[] 0) 0 (.map [] [] false) ?_) ?_
 ·simp[execOp,D,Instr.makeMap]
 ·unfold dV
  simp only[bN]
  exact⟨#[],0,by rw[heap_alloc,if_pos rfl],MapKept.stamped_empty 0,by simp[PList],by simp[PList],fun _ _=>Or.inr (by trivial)⟩
 ·simp[aq,bN,eD]
theorem aev{d:Nat}{sh:Bool}{t e:TypeId}{l c:Operand}{N:aV}{i:TypeInfo}{z:T}(ho:o.op= .makeSlice t l c)(ht:P.underlying t=some (.slice e))(hi:P.info? e=some i)(hz:og P e=some z)(hl:eV l=some N)(O:Gp l c=true)
  (Gv:noTup z=true) (r:i.size=(cellsOf z).length) (h0:i.size≠0)
  (H:(bB d st.rho (.mksl (cellsOf z) i.bytes N sh)).run st.get st.sh.length=some (.val v ups)):eo P B st a w β M o v ups:=by
 have vl:=dS l N hl
 have ec:a.eval c=a.eval l:=by
  unfold Gp at O
  grind
 simp only[bB]at H
 split at H
 ·rename_i n en
  obtain⟨k0,m,em,hm,rfl⟩:=iU en
  rw[em]at vl
  have el:=vl.int
  split at H
  ·rename_i fG
   simp at fG
   obtain⟨U,V⟩:=fG
   obtain⟨sp,k,g,rfl,rfl,hg,hgs⟩:=jS H
   obtain⟨i',D,W,z2,z3⟩:=vL hz
   rw[hi]at W;simp at W;subst W
   obtain⟨c1,c2⟩:=vM (w:=w) (M:=M) (ma z3) Gv
   have I:=PList.length _ _ c1
   have X:D.cells.size=i.size:=by rw[r,I];simp
   have Y:=BP D.cells m.toNat zV
   have Z:roomy=1099511627776:=rfl
   rw[Z]at U V
   have XT:IntKind.i64.wrap m=m:=by
    simp[IntKind.wrap,IntKind.bits,IntKind.signed];omega
   have J:((Array.range (m.toNat*i.size)).map (fun j=>D.cells[j%D.cells.size]!)).size=m.toNat*i.size:=yv
   refine Gw (cv:= .slice (some ⟨w.heap.size,0,none⟩) m.toNat m.toNat) ?_ (yj h e ((Array.range (m.toNat*i.size)).map (fun j=>D.cells[j%D.cells.size]!)) (repl (cellsOf z) m.toNat) (UR (cellsOf z)) sp k g hg ?_ (BQ c2 _) ?_) ?_
   ·have K:(i.bytes:Int)*m=((m.toNat*i.bytes:Nat):Int):=by rw[Int.natCast_mul,Int.toNat_of_nonneg hm,Int.mul_comm]
    have:=DU (P:=P) (w:=w) (k:=k0) ht hi z2 hm XT (by rw[K];omega) zV
    simp[execOp,ho,ec,el,this]
   ·have F:PList w M (repl (cellsOf z) m.toNat) (((Array.range (m.toNat*i.size)).map (fun j=>D.cells[j%D.cells.size]!)).toList.take (repl (cellsOf z) m.toNat).length):=by
     rw[vO,←r,←X,Y]
     have:=PList.repl c1 m.toNat
     rw[vQ]
     ·exact this
     ·rw[vO];simp
    cases hb:UR (cellsOf z)with
    |false=>exact F
    |true=>
     cases sp with
     |L=>exact PList.toV β st.gens _ _ F
     |S=>exact fun ba G' _ _=>PList.toV ba G' _ _ F
   ·rw[J,vO,r];exact Nat.le_refl _
   ·simp only[aq,bN,eD]
    refine⟨by simp,m.toNat,rfl,Nat.le_refl _, ?_⟩
    rw[J,r];simp
  ·simp[Q.run]at H
 ·simp[Q.run]at H
end
theorem lL(st:St): ∀(us:List Up) (sp:Sp) (k:Nat),jQ us sp k=false→(st.ups us).get sp k=st.get sp k:=by
 intro us
 induction us generalizing st with
 |nil=>intro sp k _;rfl
 |cons u us ih=>
  grind [jQ,Bool.or_eq_false_iff,St.ups,fk]
theorem ak2(st:St)(u:Up):(st.up u).fr=st.fr:=by obtain⟨sp,k,e⟩:=u;cases sp <;> rfl
def Gx(st:St): ∀(us:List Up),(st.ups us).fr=st.fr:=by
 intro us
 induction us generalizing st with
 |nil=>rfl
 |cons u us ih=>grind [St.ups,ak2]
theorem zE: ∀{ps:List (Nat×Operand)} {r:List (Nat×aV)},sj ps=some r→ps.length=r.length∧ ∀(j i:Nat) (x:Operand) (D:Nat) (y:aV),ps[j]? =some (i,x)→r[j]? =some (D,y)→D=i∧eV x=some y
 | [],r,h=>by grind [sj]
 |(F,x0)::ps,r,h=>by
  simp only[sj]at h
  split at h
  ·rename_i y H h2 h3
   simp at h;subst h
   obtain⟨a1,a2⟩:=zE h3
   grind
  ·cases h
theorem JQ{w:World}{M:MSet}{place:Nat→Option (Nat×Nat)}: ∀(parts:List (Nat×Value)) (ps:List (Nat×List T)) (F:List T) (D:Array Value) (rs:List T),
  PList w M F D.toList→F.all single=true→parts.length=ps.length→(∀(j i:Nat) (cv:Value) (off:Nat) (ts:List T),parts[j]? =some (i,cv)→ps[j]? =some (off,ts)→place i=some (off,ts.length)∧PList w M ts cv.cells.toList∧ts.all single=true)→
  lu F ps=some rs→ ∃rc,Instr.fill place D parts=some rc∧PList w M rs rc.toList∧rs.all single=true∧rs.length=F.length
 | [],ps,F,D,rs,I,hs,r,J,H=>by
   grind [lu,Instr.fill]
 |(i,cv)::parts,ps,F,D,rs,I,hs,r,J,H=>by
  cases ps with
  |nil=>simp at r
  |cons p ps=>
   obtain⟨off,ts⟩:=p
   simp only[lu]at H
   split at H
   ·rename_i N
    obtain⟨W,K,O⟩:=J 0 i cv off ts rfl rfl
    have Mk:=PList.length _ _ K
    have UU:=PList.length _ _ I
    have U:cv.cells.size=ts.length:=by rw[Mk];simp
    have V:D.size=F.length:=by rw[UU];simp
    have hc: ¬((cv.cells.size≠ts.length||off+cv.cells.size>D.size)=true):=by
     grind
    have e:(cv.cells.zipIdx.foldl (fun(cs:Array Value) (p:Value×Nat)=>cs.setIfInBounds (off+p.2) p.1) D).toList=splice D.toList off cv.cells.toList:=by
     have:=yi off cv.cells.toList 0 D
     grind [Array.toList_zipIdx]
    obtain⟨rc,X,Y,Z,r4⟩:=JQ parts ps (splice F off ts) (cv.cells.zipIdx.foldl (fun(cs:Array Value) (p:Value×Nat)=>cs.setIfInBounds (off+p.2) p.1) D) rs
     (by rw[e];exact PList.splice I K) (pw hs O) (by simpa using r) (fun j i cv off ts a b=>J (j+1) i cv off ts (by simpa using a) (by simpa using b)) H
    grind [cU,Instr.fill]
   ·cases H
def BR{P:Program}{w:World}{t e:TypeId}{len n:Nat}{i:TypeInfo}{H:Value}{parts:Array (Nat×Value)}{rc:Array Value}(I:P.underlying t=some (.slice e))(hi:P.info? e=some i)(K:i.size=n)(N:i.zero=some H)(O:len*n≤16777216)
  (E2:Instr.fill (fun j=>some (j*n,n)) ((Array.range (len*n)).map (fun j=>H.cells[j%H.cells.size]!)) parts.toList=some rc):
  (Instr.buildSlice t len parts).run P w= .ok (.slice (some ⟨w.heap.size,0,none⟩) len len) (w.alloc (.cells rc e)):=by
 have D: ¬(len*n>2 ^ 24):=zV
 have F:(sizeOf e).run P w= .ok n w:=by simp[sizeOf,typeInfo,hi,K]
 have r:(zeroValue e).run P w= .ok H w:=by simp[zeroValue,typeInfo,hi,N]
 unfold Instr.buildSlice
 by_cases gG:len*n=0
 ·have J: ∀f:Nat→Value,(Array.range (len*n)).map f= #[]:=by
   grind
  rw[J]at E2
  simp only[Sem.run_bind,run_underlying I,Result.andThen_ok,F,if_neg D,if_pos gG,Sem.run_pure,J,E2]
  simp[newRow]
 ·simp only[Sem.run_bind,run_underlying I,Result.andThen_ok,F,if_neg D,if_neg gG,Sem.run_pure,r,E2]
  simp[newRow]
section
variable{P:Program}{B:eZ}{st:St}{a:Act}{w:World}{β:aQ}{M:MSet}{o:Oper}{v:T}{ups:List Up}
variable(dS:kD β st.gens w M st.rho a.eval)(h:bh B st w β M)
theorem Tr.fz{r:St}{M':MSet}(D:Fz st r)(hs: ∀b x,M' b x→M b x):Tr st w β M r w β M':=
 ⟨dq hs,fun _ _ _ _=>rfl,fun sp k=>by rw[D.gens];exact Nat.le_refl _⟩
include dS h
theorem anJ{d nx:Nat}{t e:TypeId}{len:Nat}{ps:Array (Nat×Operand)}{r:List (Nat×aV)}{z:T}{n:Nat}(ho:o.op= .buildSlice t len ps)(ht:P.underlying t=some (.slice e))(hz:og P e=some z)(N:eU P e=some n)(hr:sj ps.toList=some r)
  (Gv:noTup z=true) (F:n=(cellsOf z).length) (h0:n≠0) (O:len*n≤16777216)
  (D:(bB d st.rho (.bsl (cellsOf z) len r)).run st.get nx=some (.val v ups)):eo P B st a w β M o v ups:=by
 simp only[bB,Q.run_bind]at D
 cases U:(bo (Ev.fz false aJ) (r.map fun p=>st.rho p.2)).run st.get nx with
 |none=>simp[U]at D
 |some p=>
  obtain⟨ts,us⟩:=p
  simp only[U,Option.bind_some]at D
  split at D
  ·rename_i bw
   split at D
   ·rename_i cs hf
    simp[Q.run]at D;obtain⟨rfl,rfl⟩:=D
    obtain⟨g1,g2⟩:=zE hr
    have sV:av β st.gens w M (r.map fun p=>st.rho p.2) (ps.toList.map fun p=>a.eval p.2):=by
     have gen: ∀(I:List (Nat×Operand)) (rs:List (Nat×aV)),I.length=rs.length→(∀(j i:Nat) (x:Operand) (K:Nat) (y:aV),I[j]? =some (i,x)→rs[j]? =some (K,y)→K=i∧eV x=some y)→av β st.gens w M (rs.map fun p=>st.rho p.2) (I.map fun p=>a.eval p.2):=by
      intro I
      induction I with
      |nil=>grind [av]
      |cons q I ih=>
       intro rs hl hg
       cases rs with
       |nil=>simp at hl
       |cons rr rs=>
        simp only[List.map_cons,av]
        exact⟨_,_,rfl,dS _ _ (hg 0 q.1 q.2 rr.1 rr.2 rfl rfl).2,ih rs (by simpa using hl) (fun j i x K y a b=>hg (j+1) i x K y (by simpa using a) (by simpa using b))⟩
     grind
    obtain⟨M',q1,q2,q3,q4,q5,q6⟩:=j0 (fun t=>zr false st aJ t) _ B st w β M _ ts us nx (Fz.refl st) h sV U
    have V:PList w M' ts (ps.toList.map fun p=>a.eval p.2):=q4
    obtain⟨i,W,z1,z2,z3⟩:=vL hz
    obtain⟨c1,c2⟩:=vM (w:=w) (M:=M') (ma z3) Gv
    have X:=PList.length _ _ c1
    have Y:i.size=n:=by unfold eU at N;rw[z1]at N;simpa using N
    have J:W.cells.size=n:=by rw[F,X];simp
    have Z:=BP W.cells len zV
    rw[J]at Z
    have azT:PList w M' (repl (cellsOf z) len) ((Array.range (len*n)).map (fun j=>W.cells[j%n]!)).toList:=by
     grind [PList.repl]
    obtain⟨rc,r1,r2,r3,r4⟩:=JQ (place:=fun i=>some (i*n,n)) (ps.toList.map fun p=>(p.1,a.eval p.2)) _ (repl (cellsOf z) len) _ cs azT (BQ c2 len) (by simp[g1,q6]) (by
     intro j i cv off tt b1 b2
     rw[List.getElem?_map,Option.map_eq_some_iff]at b1
     obtain⟨⟨i1,x⟩,c3,c4⟩:=b1
     simp at c4;obtain⟨rfl,rfl⟩:=c4
     rw[List.getElem?_zip_eq_some]at b2
     obtain⟨b3,b4⟩:=b2
     rw[List.getElem?_map,Option.map_eq_some_iff]at b3 b4
     obtain⟨⟨i2,y⟩,d1,d2⟩:=b3
     obtain⟨tv,d3,d4⟩:=b4
     obtain⟨e1,e2⟩:=g2 j i1 x i2 y c3 d1
     subst e1
     simp at d2
     obtain⟨cv',f1,f2⟩:=V.get d3
     rw[List.getElem?_map,c3]at f1
     simp at f1;subst f1
     have H:=(List.all_eq_true.1 bw) _ (List.mem_of_getElem? d3)
     simp at H
     obtain⟨k1,k2⟩:=vM f2 H.2
     subst d4
     exact⟨by rw[H.1,←F,←d2,F],k1,k2⟩) hf
    obtain⟨p1,p2⟩:=ann q1 (.cells rc e)
    refine⟨_,.slice (some ⟨w.heap.size,0,none⟩) len len,w.alloc (.cells rc e),β,M', ?_,.inl rfl,p1,(Tr.fz q2 q3).trans p2 (Nat.le_refl _),by show _≤(w.heap.push _).size;simp, ?_⟩
    ·have:=BR (P:=P) (w:=w) (t:=t) (e:=e) (len:=len) (n:=n) (parts:=ps.map fun(i,x)=>(i,a.eval x)) (rc:=rc) ht z1 Y z2 O (by rw[J];simpa using r1)
     simp[execOp,ho,this]
    ·simp only[aq,PRel]
     refine⟨w.heap.size,0,len,none,rfl,Nat.le_refl _,fun _=>rfl,.inl rfl, ?_⟩
     have Ix:=PList.length _ _ r2
     refine PCells.of (c:=rc) (el:=e) (fz:=(0,0)) (by rw[heap_alloc,if_pos rfl]) _ _ ?_ ?_ r3
     ·rw[List.drop_zero,vQ Ix];exact PList.mono p2.keep _ _ r2
     ·intro x _ _ hmx
      exact Nat.lt_irrefl _ (q1.mlt _ _ hmx)
   ·simp[Q.run]at D
  ·simp[Q.run]at D
end
theorem kZ{w:World}{g:Nat}{r cs:Array Value}{t:TypeId}{fr:Nat×Nat}(D:w.heap[g]? =some (.cells r t fr)):w.setRow g cs=setBlock w g (.cells cs t fr):=by
 unfold World.setRow setBlock
 congr 1
 grind
theorem aq.one{β:aQ}{G:Sp→Nat→Nat}{w:World}{M:MSet}{t:T}{cv:Value}(h:aq β G w M t cv)(hs:single t=true):cv.oneCell'=true:=by
 cases t <;> simp[single]at hs <;> simp only[aq,PRel]at h
 all_goals first
  |(subst h;rfl)
  |(obtain⟨_,rfl,_⟩:=h;rfl)
  |(obtain⟨_,_,rfl,_⟩:=h;rfl)
  |(obtain⟨_,_,_,rfl,_⟩:=h;rfl)
  |(obtain⟨_,_,_,_,rfl,_⟩:=h;rfl)
  |(obtain⟨_,rfl⟩:=h;rfl)
theorem av.one{β:aQ}{G:Sp→Nat→Nat}{w:World}{M:MSet}: ∀{ts:List T} {r:List Value},av β G w M ts r→ts.all single=true→ ∀v∈r,v.oneCell'=true
 | [],r,h,_=>by grind [av]
 |t::ts,r,h,hs=>by
  simp only[av]at h
  obtain⟨u,us,rfl,h1,h2⟩:=h
  simp only[List.all_cons,Bool.and_eq_true]at hs
  intro v hv
  simp at hv
  rcases hv with rfl|hv
  ·exact h1.one hs.1
  ·exact av.one h2 hs.2 v hv
def aey(l r:List Value)(k:Nat)(hk:k+r.length≤l.length)(j:Nat):(l.take k++r++l.drop (k+r.length))[j]? =(splice l k r)[j]? :=by
 rw[eX]
 grind
theorem BS(l r:List Value)(k:Nat)(hk:k+r.length≤l.length):l.take k++r++l.drop (k+r.length)=splice l k r:=by
 apply List.ext_getElem?;intro j;exact aey l r k hk j
section
variable{P:Program}{B:eZ}{st:St}{a:Act}{w:World}{β:aQ}{M:MSet}{o:Oper}{v:T}{ups:List Up}
def vR(h:bh B st w β M){sp:Sp}{k g F:Nat}{cs:List T}{bx:Bool}(V:st.get sp k=⟨g,.cells cs F bx⟩)(r:Nat)(W:g≤r){c:Array Value}{el:TypeId}
  (X:w.heap[(β sp k g).blk]? =some (.cells c el (0,0))) (off:Nat) (D:List Value) (Mn:List T) (JR:F≤off) (JS:off+D.length≤(β sp k g).ext) (hle:F≤Mn.length) (Y:Mn.length≤(β sp k g).ext) (hs:Mn.all single=true)
  (hl:ky sp bx β st.gens w M Mn ((splice (c.toList.drop (β sp k g).off) off D).take Mn.length)):
  bh B (st.up (sp,k,⟨r,.cells Mn F bx⟩)) (setBlock w (β sp k g).blk (.cells (splice c.toList ((β sp k g).off+off) D).toArray el)) (iw β sp k r (β sp k g)) M∧
  Tr st w β M (st.up (sp,k,⟨r,.cells Mn F bx⟩)) (setBlock w (β sp k g).blk (.cells (splice c.toList ((β sp k g).off+off) D).toArray el)) (iw β sp k r (β sp k g)) M:=by
 have Z:st.gens sp k=g:=by show(st.get sp k).g=g;rw[V]
 have UW:live (st.get sp k):=by rw[V];trivial
 have ho:=h.obj sp k
 rw[V]at ho
 unfold dV at ho
 obtain⟨c0,el0,fz0,h1,h2,h3,h4,h5,h6,h7,h8⟩:=ho
 dsimp only at h1 h2 h3 h4 h6
 rw[X]at h1
 simp at h1
 obtain⟨rfl,rfl,rfl⟩:=h1
 have N:=mR X
 have hk:dG w M (setBlock w (β sp k g).blk (.cells (splice c.toList ((β sp k g).off+off) D).toArray el)) M:=by
  refine⟨fun b x u J K=> ?_,fun b es cl J K=> ?_,fun _ _ _ h=>h⟩
  ·by_cases O:b=(β sp k g).blk
   ·subst O
    unfold World.cell? at J ⊢
    rw[X]at J
    rw[dz,if_pos ⟨rfl,N⟩]
    simp at J ⊢
    rw[eX,if_neg]
    ·simpa using J
    ·rintro⟨q1,q2,q3⟩
     apply K
     have:=h6 (x-(β sp k g).off) zV zV
     rwa [show(β sp k g).off+(x-(β sp k g).off)=x by omega]at this
   ·rw[jl (w:=w) (by rw[dz,if_neg (fun e=>O e.1)])];exact J
  grind [dz]
 have XW: ∀H k' I,I≤st.gens H k'→iw β sp k r (β sp k g) H k' I=β H k' I:=by
  grind [bN,vG]
 have hG: ∀H k',st.gens H k'≤(st.up (sp,k,⟨r,.cells Mn F bx⟩)).gens H k':=by
  intro H k';rw[eD];split
  ·grind
  ·grind
 have U:=Pq (M':=M) h sp k r (.cells Mn F bx) UW (by rw[Z];exact W) (.cells (splice c.toList ((β sp k g).off+off) D).toArray el) (fun _ _ K=>K) (fun _ _ _ K=>K) (by rw[Z];exact hk) (h.base UW)
 rw[Z]at U
 refine U ?_
 unfold dV
 simp only[bN]
 refine⟨_,el,(0,0),by rw[dz,if_pos ⟨rfl,N⟩],by simp[cU];omega,Y,rfl, ?_,h6,hs,by omega⟩
 have azV:(splice c.toList ((β sp k g).off+off) D).drop (β sp k g).off=splice (c.toList.drop (β sp k g).off) off D:=by
  apply List.ext_getElem?
  grind [eX,List.length_drop]
 simp only[List.toList_toArray]at azV ⊢
 grind [ky.mono]
variable(dS:kD β st.gens w M st.rho a.eval)(h:bh B st w β M)
include h
omit h in
def E3{M':MSet}{us:List Up}{t:TypeId}{n:Nat}{x y:Operand}{sp:Sp}{k g off J:Nat}{cs:List T}{bx:Bool}{ts:List T}(Y:o.op= .store t x y)(Z:eU P t=some n)(U:bh B (st.ups us) w β M')(K:Tr st w β M (st.ups us) w β M')
  (hx:a.eval x= .pointer (some ⟨(β sp k g).blk,(β sp k g).off+off,none⟩)) (V:(st.ups us).get sp k=⟨g,.cells cs J bx⟩) (JR:J≤off) (hle:off+n≤cs.length) (W:ts.length=n) (hs:ts.all single=true)
  (F:ky sp bx β (st.ups us).gens w M' ts (a.eval y).cells.toList):
  eo P B st a w β M o aU (us++ [(sp,k,⟨g,.cells (splice cs off ts) J bx⟩)]):=by
 have Ab:=U.obj sp k
 rw[V]at Ab
 unfold dV at Ab
 obtain⟨c,el,fz,h1,h2,h3,h4,h5,h6,h7,h8⟩:=Ab
 dsimp only at h1 h2 h3 h4 h5 h6
 subst h4
 have D:av β (st.ups us).gens w M' ts (a.eval y).cells.toList:=F.toV
 have N:=av.length _ _ D
 have XX:=av.one D hs
 have H:=run_storeCells_at P (β sp k g).blk ((β sp k g).off+off) el (a.eval y).cells.toList 0 c w h1 (by simp at N ⊢; omega) XX
 rw[kZ h1]at H
 simp only[Nat.add_zero]at H
 rw[BS _ _ _ (by simp at N ⊢; omega)]at H
 have r:=vR U V g (Nat.le_refl _) h1 off (a.eval y).cells.toList (splice cs off ts) JR zV (by rw[cU];omega) (by rw[cU];exact h3) (pw h7 hs) (by
  rw[cU]
  have XY:(splice (c.toList.drop (β sp k g).off) off (a.eval y).cells.toList).take cs.length=splice ((c.toList.drop (β sp k g).off).take cs.length) off (a.eval y).cells.toList:=by
   apply List.ext_getElem?
   intro j
   rw[List.getElem?_take,eX,eX,List.getElem?_take,List.length_take]
   by_cases I:j<cs.length
   ·rw[if_pos I,if_pos I]
    by_cases hc:off≤j∧j<off+(a.eval y).cells.toList.length∧j<(c.toList.drop (β sp k g).off).length
    ·rw[if_pos hc,if_pos zV]
    ·rw[if_neg hc,if_neg zV]
   ·rw[if_neg I,if_neg I,if_neg zV]
  rw[XY]
  cases bx
  ·exact PList.splice h5 F
  ·cases sp
   ·exact av.splice h5 F
   ·exact fun X G' p q=>av.splice (h5 X G' p q) (F X G' p q))
 rw[om]at r
 refine⟨.skip,undef,setBlock w (β sp k g).blk (.cells (splice c.toList ((β sp k g).off+off) (a.eval y).cells.toList).toArray el),β,M', ?_,.inr ⟨rfl,rfl⟩, ?_, ?_,by rw[eh];exact Nat.le_refl _, ?_⟩
 ·have O:(a.eval y).cells.size=n:=by simp at N;omega
  simp[execOp,Y,hx,Instr.storeAt,Instr.sureAddr,storeVar,gz Z,O,H]
 ·rw[dO];exact r.1
 ·rw[dO];exact K.trans r.2 (Nat.le_refl _)
 ·simp[aq,aU,undef,av]
include dS
theorem azW{d:Nat}{t:TypeId}{n:Nat}{x y:Operand}{K F:aV}(V:o.op= .store t x y)(hx:eV x=some K)(hy:eV y=some F)(W:eU P t=some n)
  (r:(bB d st.rho (.st K F n)).run st.get st.sh.length=some (.val v ups)):eo P B st a w β M o v ups:=by
 have J:=dS x K hx
 have X:=dS y F hy
 simp only[bB,od]at r
 split at r
 ·simp[Q.run]at r
 ·rename_i hc
  simp at hc
  obtain⟨H,DE⟩:=hc
  split at r
  ·rename_i sp k g off ex
   rw[ex]at J
   simp only[aq]at J
   simp only[Q.run]at r
   split at r
   ·rename_i Y
    generalize Z:st.get sp k=e at*
    obtain⟨ge,ob⟩:=e
    dsimp only at Y;subst Y
    cases ob with
    |none=>simp[Q.run]at r
    |map _ _ _=>simp[Q.run]at r
    |cells cs wm bx=>
     dsimp only at r
     split at r
     ·rename_i JR
      simp at JR
      split at r
      ·rename_i MU
       simp at MU
       obtain⟨rfl,rfl⟩:=MU
       simp[Q.run]at r;obtain⟨rfl,rfl⟩:=r
       obtain⟨k1,k2⟩:=pv X DE
       exact E3 (us:= []) V W h (Tr.refl _ _ _ _) J.2 Z JR.1 JR.2 H k2 k1
      ·rename_i MU
       simp only[Q.run_bind]at r
       cases N:(fz (bx&&sp== .S) aJ (st.rho F)).run st.get st.sh.length with
       |none=>simp[N]at r
       |some p=>
        obtain⟨t',us⟩:=p
        simp only[N,Option.bind_some]at r
        split at r
        ·simp[Q.run]at r
        ·rename_i hh
         simp at hh
         obtain⟨⟨O,D⟩,U⟩:=hh
         simp[Q.run]at r;obtain⟨rfl,rfl⟩:=r
         obtain⟨M',q1,q2,q3,I,q5⟩:=zr _ st aJ (st.rho F) B st w β M _ t' us _ (Fz.refl st) h X N
         have PA:(st.ups us).get sp k=⟨ge,.cells cs wm bx⟩:=by rw[lL st us sp k O];exact Z
         refine E3 (us:=us) V W q1 (Tr.fz q2 q3) J.2 PA JR.1 JR.2 U ?_ ?_
         ·exact(pv I.toV D).2
         ·cases bx with
          |false=>
           simp only[Bool.false_and]at I
           exact(vM I D).1
          |true=>
           cases sp with
           |L=>simp at MU
           |S=>
            simp only[Bool.true_and,beq_self_eq_true]at I
            rw[q2.gens]
            exact fun ba G' p q=>(pv (I ba G' p q) D).1
     ·simp[Q.run]at r
   ·simp[Q.run]at r
  ·simp[Q.run]at r
end
section
variable{P:Program}{B:eZ}{st:St}{a:Act}{w:World}{β:aQ}{M:MSet}{o:Oper}{v:T}{ups:List Up}
variable(dS:kD β st.gens w M st.rho a.eval)(h:bh B st w β M)
def MV{t U et:TypeId}{ek:EK}{m:Option Nat}{H:Array MapEntry}{F:Nat}{ks vs:List T}{k z r:T}{kv V:Value}{N:Bool}(ht:P.underlying t=some (.map U et))(hk:keyOf P U=some ek)
  (hm:(m=none∧H= #[])∨ ∃I,m=some I∧w.heap[I]? =some (.map H F)) (O:PList w M ks (H.toList.map (·.key))) (W:PList w M vs (H.toList.map (·.val))) (K:aq β st.gens w M k kv) (hz:(zeroValue et).run P w= .ok V w) (hzr:PRel w M z V)
  (J:iN ek ks vs k z N=some r): ∃cv,(Instr.lookup t (.map m) kv N).run P w= .ok cv w∧aq β st.gens w M r cv:=by
 unfold iN at J
 split at J
 ·cases J
 ·rename_i Py
  simp at Py
  have zx:(Instr.checkKey H.isEmpty 10000 U kv).run P w= .ok () w:=zy (P:=P) hk K Py 9998 H.isEmpty
  have X: ∀D,(Instr.findKey U kv H.toList).run P w= .ok D w→(Instr.lookup t (.map m) kv N).run P w=
    .ok (match D with|some (_,cv)=>if N then .tuple #[cv,.bool true]else cv|none=>if N then .tuple #[V,.bool false]else V) w:=by
   intro D DV
   unfold Instr.lookup
   rcases hm with⟨rfl,rfl⟩|⟨I,rfl,hb⟩
   ·simp only[Sem.run_bind,run_underlying ht,Result.andThen_ok,Sem.run_pure,zx,DV]
    cases D with
    |none=>simp[hz]
    |some p=>simp
   ·have Ad:(getObj I).run P w= .ok (.map H F) w:=by simp[getObj,Sem.run,hb]
    simp only[Sem.run_bind,run_underlying ht,Result.andThen_ok,Sem.run_pure,Ad,zx,DV]
    cases D with
    |none=>simp[hz]
    |some p=>simp
  split at J
  ·rename_i i Y
   obtain⟨D,r1,Z⟩:=pt (P:=P) hk K H.toList ks _ O Y
   obtain⟨e,e1,e2⟩:=Z
   simp only[Option.map_eq_some_iff]at J
   obtain⟨v',hv',rfl⟩:=J
   obtain⟨cv,c1,c2⟩:=W.get hv'
   grind [aq,av,PRel.toV]
  ·rename_i Y
   simp at J;subst J
   obtain⟨D,r1,Z⟩:=pt (P:=P) hk K H.toList ks _ O Y
   refine⟨_,X D r1, ?_⟩
   have:D=none:=Z
   grind [aq,av,PRel.toV]
  ·cases J
include dS h
theorem azY{d nx:Nat}{t Z et:TypeId}{m k:Operand}{X k':aV}{U:Bool}{V:EK}{z:T}(ho:o.op= .lookup t m k U)(hm:eV m=some X)(hk:eV k=some k')(ht:P.underlying t=some (.map Z et))(Y:keyOf P Z=some V)(hz:og P et=some z)
  (F:(bB d st.rho (.lk V X k' z U)).run st.get nx=some (.val v ups)):eo P B st a w β M o v ups:=by
 have H:=dS m X hm
 have vk:=dS k k' hk
 obtain⟨zv,z1,z2⟩:=E1 hz w
 have N: ∀(W:Option Nat) (I:Array MapEntry) (D:Nat) (ks J:List T) (r:T),a.eval m= .map W→((W=none∧I= #[])∨ ∃K,W=some K∧w.heap[K]? =some (.map I D))→PList w M ks (I.toList.map (·.key))→PList w M J (I.toList.map (·.val))→
   iN V ks J (st.rho k') z U=some r→eo P B st a w β M o r []:=by
  intro W I D ks J r e1 e2 e3 e4 e5
  obtain⟨cv,r1,r2⟩:=MV (P:=P) (β:=β) (st:=st) ht Y e2 e3 e4 vk z1 (z2 w M) e5
  exact aY h (cv:=cv) (by simp[execOp,ho,e1,r1]) r2
 simp only[bB]at F
 split at F
 ·rename_i e
  rw[e]at H;simp only[aq]at H
  split at F
  ·rename_i Py
   simp[Q.run]at F;obtain⟨rfl,rfl⟩:=F
   exact N none #[] 0 [] [] _ H (.inl ⟨rfl,rfl⟩) (by simp[PList]) (by simp[PList]) (by simp[iN,Py,hZ])
  ·simp[Q.run]at F
 ·rename_i ks J e
  rw[e]at H;simp only[aq,PRel]at H
  obtain⟨K,I,D,e1,e2,_,_,e3,e4⟩:=H
  cases O:iN V ks J (st.rho k') z U with
  |none=>simp[O,Ev.val,Q.run]at F
  |some r=>
   simp[O,Ev.val,Q.run]at F;obtain⟨rfl,rfl⟩:=F
   exact N _ I D ks J _ e1 (.inr ⟨K,rfl,e2⟩) e3 e4 O
 ·rename_i sp kk g e
  rw[e]at H;simp only[aq]at H
  simp only[Q.run]at F
  split at F
  ·rename_i hg
   have Ab:=h.obj sp kk
   generalize he:st.get sp kk=en at*
   obtain⟨ge,ob⟩:=en
   dsimp only at hg;subst hg
   cases ob with
   |none=>simp[Q.run]at F
   |cells _ _ _=>simp[Q.run]at F
   |map ks J f=>
    dsimp only at F
    unfold dV at Ab
    obtain⟨I,D,e2,_,e3,e4,_⟩:=Ab
    cases O:iN V ks J (st.rho k') z U with
    |none=>simp[O,Ev.val,Q.run]at F
    |some r=>
     simp[O,Ev.val,Q.run]at F;obtain⟨rfl,rfl⟩:=F
     exact N _ I D ks J _ H.2 (.inr ⟨_,rfl,e2⟩) e3 e4 O
  ·simp[Q.run]at F
 ·simp[Q.run]at F
omit dS h
def PList.set{ts:List T}{r:List Value}(i:Nat){t:T}{cv:Value}(h:PList w M ts r)(D:PRel w M t cv):PList w M (ts.set i t) (r.set i cv):=by
 induction ts generalizing r i with
 |nil=>grind [PList]
 |cons x xs ih=>
  simp only[PList]at h
  obtain⟨u,us,rfl,h1,h2⟩:=h
  cases i with
  |zero=>grind [PList]
  |succ i=>grind [PList]
def tu{c:CK}{x y:T}{D F:Value}(hx:aq β st.gens w M x D)(r:aq β st.gens w M y F)(h:eL c x y=some true)(n:Nat):Instr.sameBits n F D=true:=by
 unfold eL at h
 split at h
 ·simp at h;subst h;rw[hx.bool,r.bool];simp[Instr.sameBits]
 ·split at h
  ·rename_i e;subst e;simp at h;subst h;rw[hx.int,r.int];simp[Instr.sameBits]
  ·cases h
 ·simp at h;subst h
  obtain⟨H,e1,I⟩:=hx.str
  obtain⟨J,e2,K⟩:=r.str
  rw[e1,e2]
  have:(J==H)=true:=by
   rw[beq_toListBytes,←fZ,←bytesN_toList,←bytesN_toList,I,K];simp
  grind [Instr.sameBits]
 ·cases h
theorem qS: ∀{ks:List CK} {xs r:List T} {D F:List Value},av β st.gens w M xs D→av β st.gens w M r F→cg ks xs r=some true→ ∀n,D.length=F.length∧((F.zip D).all fun p=>Instr.sameBits n p.1 p.2)=true
 | [],xs,r,D,F,hx,H,h,n=>by
   cases xs <;> cases r <;> simp[cg]at h
   simp_all[av]
 |k::ks,xs,r,D,F,hx,H,h,n=>by
  cases xs with
  |nil=>grind [cg]
  |cons x xs=>
   cases r with
   |nil=>simp[cg]at h
   |cons y r=>
    simp only[av]at hx H
    obtain⟨u,us,rfl,h1,h2⟩:=hx
    obtain⟨O,J,rfl,K,I⟩:=H
    simp only[cg]at h
    cases hc:eL k x y with
    |none=>simp[hc]at h
    |some b=>
     cases b with
     |false=>simp[hc]at h
     |true=>
      simp only[hc]at h
      obtain⟨U,N⟩:=qS h2 I h n
      simp only[List.length_cons,List.zip_cons_cons,List.all_cons,Bool.and_eq_true]
      exact⟨by omega,tu h1 K hc n,N⟩
def Gy{r:EK}{x y:T}{F H:Value}(I:(∃c,r= .one c)∨ ∃ks,r= .flat ks)(hx:aq β st.gens w M x F)(D:aq β st.gens w M y H)(h:sS r x y=some true)(n:Nat):Instr.sameBits (n+1) H F=true:=by
 rcases I with⟨c,rfl⟩|⟨ks,rfl⟩
 ·exact tu hx D h _
 ·unfold sS at h
  split at h <;> simp_all
  rename_i xs N
  simp only[aq]at hx D
  obtain⟨O,rfl,J,_⟩:=hx
  obtain⟨U,rfl,K,_⟩:=D
  obtain⟨V,W⟩:=qS J K h n
  simp_all[Instr.sameBits,Bool.and_eq_true]
theorem JT{D:EK}{k:T}: ∀{ks:List T} {i:Nat},hZ D k ks=some (some i)→ ∃x,ks[i]? =some x∧sS D k x=some true
 | [],i,h=>by simp[hZ]at h
 |x::xs,i,h=>by
  simp only[hZ]at h
  split at h
  ·grind
  ·simp only[Option.map_eq_some_iff]at h
   obtain⟨r,h1,h2⟩:=h
   cases r with
   |none=>simp at h2
   |some j=>
    simp at h2;subst h2
    simp_all[JT]
  ·cases h
theorem zF{c:CK}{x y:T}{H I:Value}(hx:aq β st.gens w M x H)(r:aq β st.gens w M y I)(h:eL c x y=some true):H=I:=by
 unfold eL at h
 split at h
 ·simp at h;subst h;rw[hx.bool,r.bool]
 ·split at h
  ·rename_i e;subst e;simp at h;subst h;rw[hx.int,r.int]
  ·cases h
 ·simp at h;subst h
  obtain⟨D,e1,J⟩:=hx.str
  obtain⟨F,e2,K⟩:=r.str
  rw[e1,e2]
  have h3:bytesN D=bytesN F:=J.trans K.symm
  have h4:D.data.toList=F.data.toList:=(List.map_inj_right (f:=UInt8.toNat) (fun _ _ h=>UInt8.toNat_inj.1 h)).1 h3
  have h5:D=F:=ByteArray.ext (Array.toList_inj.1 h4)
  rw[h5]
 ·cases h
theorem vS: ∀{ks:List CK} {xs r:List T} {D F:List Value},av β st.gens w M xs D→av β st.gens w M r F→cg ks xs r=some true→D=F
 | [],xs,r,D,F,hx,H,h=>by
   grind [cg,av]
 |k::ks,xs,r,D,F,hx,H,h=>by
  cases xs with
  |nil=>grind [cg]
  |cons x xs=>
   cases r with
   |nil=>simp[cg]at h
   |cons y r=>
    simp only[av]at hx H
    obtain⟨u,us,rfl,h1,h2⟩:=hx
    obtain⟨N,J,rfl,K,I⟩:=H
    simp only[cg]at h
    cases hc:eL k x y with
    |none=>simp[hc]at h
    |some b=>
     cases b with
     |false=>simp[hc]at h
     |true=>
      simp only[hc]at h
      rw[zF h1 K hc,vS h2 I h]
def XZ{r:EK}{x y:T}{F H:Value}(I:(∃c,r= .one c)∨ ∃ks,r= .flat ks)(hx:aq β st.gens w M x F)(D:aq β st.gens w M y H)(h:sS r x y=some true):F=H:=by
 rcases I with⟨c,rfl⟩|⟨ks,rfl⟩
 ·exact zF hx D h
 ·unfold sS at h
  split at h <;> simp_all
  rename_i xs N
  simp only[aq]at hx D
  obtain⟨O,rfl,J,_⟩:=hx
  obtain⟨U,rfl,K,_⟩:=D
  have:=vS J K h
  simp_all
def vU{c:CK}{x y:T}{v:Value}(hx:aq β st.gens w M x v)(r:aq β st.gens w M y v)(h:eL c x y=some false):False:=by
 unfold eL at h
 split at h
 ·have e:=hx.bool;rw[r.bool]at e;cases e;simp at h
 ·split at h
  ·rename_i e;subst e
   have e:=hx.int;rw[r.int]at e;cases e;simp at h
  ·cases h
 ·obtain⟨D,e1,F⟩:=hx.str
  obtain⟨H,e2,I⟩:=r.str
  grind
 ·cases h
theorem tw: ∀{ks:List CK} {xs r:List T} {v:List Value},av β st.gens w M xs v→av β st.gens w M r v→cg ks xs r=some false→False
 | [],xs,r,v,hx,D,h=>by
   grind [cg]
 |k::ks,xs,r,v,hx,D,h=>by
  cases xs with
  |nil=>grind [cg]
  |cons x xs=>
   cases r with
   |nil=>simp[cg]at h
   |cons y r=>
    simp only[av]at hx D
    obtain⟨u,us,rfl,h1,h2⟩:=hx
    obtain⟨J,H,e,I,F⟩:=D
    cases e
    simp only[cg]at h
    cases hc:eL k x y with
    |none=>simp[hc]at h
    |some b=>
     cases b with
     |false=>exact vU h1 I hc
     |true=>
      simp only[hc]at h
      exact tw h2 F h
def SD{r:EK}{x y:T}{v:Value}(F:(∃c,r= .one c)∨ ∃ks,r= .flat ks)(hx:aq β st.gens w M x v)(D:aq β st.gens w M y v)(h:sS r x y=some false):False:=by
 rcases F with⟨c,rfl⟩|⟨ks,rfl⟩
 ·exact vU hx D h
 ·unfold sS at h
  split at h <;> simp_all
  rename_i xs J
  simp only[aq]at hx D
  obtain⟨K,rfl,H,_⟩:=hx
  obtain⟨N,e,I,_⟩:=D
  cases e
  exact tw H I h
theorem BT{D:EK}{k:T}: ∀{ks:List T},hZ D k ks=some none→ ∀x∈ks,sS D k x=some false
 | [],h,x,hx=>by simp at hx
 |y::H,h,x,hx=>by
  simp only[hZ]at h
  split at h
  ·simp at h
  ·rename_i F
   simp only[Option.map_eq_some_iff]at h
   obtain⟨r,h1,h2⟩:=h
   cases r with
   |some j=>simp at h2
   |none=>
    rcases List.mem_cons.1 hx with rfl|hx
    ·exact F
    ·exact BT h1 x hx
  ·cases h
theorem PList.getV{w:World}{M:MSet}: ∀{ts:List T} {r:List Value},PList w M ts r→ ∀{j:Nat} {v:Value},r[j]? =some v→ ∃t,ts[j]? =some t∧PRel w M t v
 | [],r,h,j,v,D=>by grind [PList]
 |x::xs,r,h,j,v,D=>by
  simp only[PList]at h
  obtain⟨u,us,rfl,h1,h2⟩:=h
  cases j with
  |zero=>grind
  |succ j=>obtain⟨t,e1,e2⟩:=PList.getV h2 (j:=j) (v:=v) (by simpa using D);exact⟨t,by simpa using e1,e2⟩
def ak4(h:bh B st w β M){sp:Sp}{k g:Nat}{ks Z:List T}(N:st.get sp k=⟨g,.map ks Z false⟩)(JU:Array MapEntry)(F:Nat)(O:MapKept.Stamped JU F)(r K:List T)(hk:PList w M r (JU.toList.map (·.key)))(hv:PList w M K (JU.toList.map (·.val))):
  bh B (st.up (sp,k,⟨g,.map r K false⟩)) (setBlock w (β sp k g).blk (.map JU F)) β M∧Tr st w β M (st.up (sp,k,⟨g,.map r K false⟩)) (setBlock w (β sp k g).blk (.map JU F)) β M:=by
 have U:st.gens sp k=g:=by show(st.get sp k).g=g;rw[N]
 have UW:live (st.get sp k):=by rw[N];trivial
 have V:=h.obj sp k
 rw[N]at V
 unfold dV at V
 obtain⟨es,W,h1,_,h2,h3,h4⟩:=V
 dsimp only at h1 h4
 have X:=mR h1
 have D:dG w M (setBlock w (β sp k g).blk (.map JU F)) M:=by
  refine⟨fun b x u Y H=> ?_,fun b es cl Y H=> ?_,fun _ _ _ h=>h⟩
  ·by_cases I:b=(β sp k g).blk
   ·grind
   ·rw[jl (w:=w) (by rw[dz,if_neg (fun e=>I e.1)])];exact Y
  ·by_cases I:b=(β sp k g).blk
   ·simp_all
   ·grind [dz]
 have J:=Pq (M':=M) h sp k g (.map r K false) UW (Nat.le_of_eq U) (.map JU F) (fun _ _ H=>H) (fun _ _ _ H=>H) (by rw[U];exact D) (h.base UW)
 rw[U,om]at J
 refine J ?_
 exact⟨JU,F,by rw[dz,if_pos ⟨rfl,X⟩],O,PList.mono D _ _ hk,PList.mono D _ _ hv,h4⟩
include dS h
theorem azZ{d:Nat}{t kt et:TypeId}{m k x:Operand}{m' k' x':aV}{ek:EK}(ho:o.op= .mapUpdate t m k x)(hm:eV m=some m')(hk:eV k=some k')(hx:eV x=some x')(ht:P.underlying t=some (.map kt et))(K:keyOf P kt=some ek)
  (D:(bB d st.rho (.mu ek m' k' x')).run st.get st.sh.length=some (.val v ups)):eo P B st a w β M o v ups:=by
 have vm:=dS m m' hm
 have vk:=dS k k' hk
 have vx:=dS x x' hx
 simp only[bB]at D
 split at D
 ·rename_i sp kk g e
  rw[e]at vm;simp only[aq]at vm
  simp only[Q.run]at D
  split at D
  ·rename_i hg
   simp at hg
   obtain⟨hg,Py⟩:=hg
   generalize he:st.get sp kk=en at*
   obtain⟨J,ob⟩:=en
   dsimp only at hg;subst hg
   split at D
   ·rename_i ks U heq
    dsimp only at heq;subst heq
    simp only[Q.run_bind]at D
    cases hz:(fz false aJ (st.rho x')).run st.get st.sh.length with
    |none=>simp[hz]at D
    |some p=>
     obtain⟨t',us⟩:=p
     simp only[hz,Option.bind_some]at D
     split at D
     ·rename_i q W
      split at D
      ·simp[Q.run]at D
      ·rename_i hh
       simp at hh
       simp[Q.run]at D;obtain⟨rfl,rfl⟩:=D
       obtain⟨M',q1,q2,q3,q4,q5⟩:=zr _ st aJ (st.rho x') B st w β M _ t' us _ (Fz.refl st) h vx hz
       have q4':PRel w M' t' (a.eval x):=q4
       have PA:(st.ups us).get sp kk=⟨J,.map ks U false⟩:=by rw[lL st us sp kk hh];exact he
       have Ab:=q1.obj sp kk
       rw[PA]at Ab
       unfold dV at Ab
       obtain⟨H,clock,e2,fF,e3,e4,_⟩:=Ab
       dsimp only at e2
       have r:aq β st.gens w M' (st.rho k') (a.eval k):=aq.mono (dq q3) (fun _ _ _ _=>rfl) (fun _ _=>Nat.le_refl _) _ _ vk
       have zx:(Instr.checkKey false 10000 kt (a.eval k)).run P w= .ok () w:=zy (P:=P) K r Py 9998 false
       obtain⟨_,mU⟩:=Gu K
       have kp:PRel w M' (st.rho k') (a.eval k):=by
        generalize st.rho k'=tk at*
        cases tk <;> rcases mU with⟨c,rfl⟩|⟨cs,rfl⟩ <;> (try (cases c)) <;> simp[isKey,Gn]at Py
        all_goals first
         |(simp only[aq]at r;simp only[PRel];exact r;done)
         |skip
        rename_i xs
        simp only[aq]at r
        obtain⟨arr,e5,l5,s5⟩:=r
        simp only[PRel]
        refine⟨arr,e5, ?_,s5⟩
        have: ∀(cs:List CK) (xs:List T) (U:List Value),lJ cs xs=true→av β st.gens w M' xs U→PList w M' xs U:=by
         intro cs
         induction cs with
         |nil=>intro xs U hc hv;cases xs <;> simp[lJ]at hc;simpa only[av,PList]using hv
         |cons c cs ih=>
          intro xs U hc hv
          cases xs with
          |nil=>simp[lJ]at hc
          |cons x xs=>
           simp only[lJ,Bool.and_eq_true]at hc
           simp only[av]at hv;simp only[PList]
           obtain⟨u,us,rfl,w1,w2⟩:=hv
           refine⟨u,us,rfl, ?_,ih xs us hc.2 w2⟩
           cases c <;> cases x <;> simp[Gn]at hc <;> simp only[aq]at w1 <;> simp only[PRel] <;> exact w1
        exact this _ _ _ Py l5
       have run: ∀(F:Option (Nat×Value)) (JU:Array MapEntry) (mg:Nat),(Instr.findKey kt (a.eval k) H.toList).run P w= .ok F w→
         (match F with
           |some (i,_)=>do
            let key ←Instr.keyThatStays (((H[i]?).map (fun e:MapEntry=>e.key)).getD (a.eval k)) (a.eval k)
            setObj (β sp kk J).blk (.map (H.modify i fun e=>{e with key,val:=a.eval x}) clock)
           |none=>setObj (β sp kk J).blk (.map (H.push {key:=a.eval k,val:=a.eval x,born:=clock}) (clock+1))).run P w= .ok () (setBlock w (β sp kk J).blk (.map JU mg))→
         (execOp a.eval o).run P w= .ok .skip (setBlock w (β sp kk J).blk (.map JU mg)):=by
        intro F JU mg DV JV
        have:(Instr.mapUpdate t (.map (some (β sp kk J).blk)) (a.eval k) (a.eval x)).run P w= .ok () (setBlock w (β sp kk J).blk (.map JU mg)):=by
         unfold Instr.mapUpdate
         simp only[Sem.run_bind,run_underlying ht,Result.andThen_ok]
         have Ad:(getObj (β sp kk J).blk).run P w= .ok (.map H clock) w:=by simp[getObj,Sem.run,e2]
         simp only[Ad,Result.andThen_ok,Sem.run_bind,zx,DV]
         cases F with
         |none=>exact JV
         |some p=>exact JV
        simp[execOp,ho,vm.2,this]
       have JV: ∀(JU:Array MapEntry) (c':Nat),(setObj (β sp kk J).blk (.map JU c')).run P w= .ok () (setBlock w (β sp kk J).blk (.map JU c')):=by
        intro JU c';simp[setObj,Sem.run,e2,setBlock]
       unfold l8 at W
       split at W
       ·rename_i i hf
        simp at W;subst W
        obtain⟨F,r1,e,V,r3⟩:=pt (P:=P) K r H.toList ks _ e3 hf
        obtain⟨kx,X,I⟩:=JT hf
        obtain⟨kcv,N,kc2⟩:=e3.get X
        rw[List.getElem?_map,V]at N
        simp at N
        have hsb:=Gy (β:=β) (st:=st) mU r (PRel.toV β st.gens _ _ kc2) I 9999
        have hei:H[i]? =some e:=by simpa using V
        simp only[Nat.zero_add]at r3
        have X1:(Instr.keyThatStays (((H[i]?).map (fun e:MapEntry=>e.key)).getD (a.eval k)) (a.eval k)).run P w= .ok (a.eval k) w:=by
         rw[hei];simp only[Option.map_some,Option.getD_some,N]
         unfold Instr.keyThatStays
         rw[if_pos hsb];rfl
        obtain⟨Y,Z⟩:=ak4 q1 PA (H.modify i fun e=>{e with key:=a.eval k,val:=a.eval x}) clock (MapKept.stamped_modify fF i _ (fun _ _=>rfl) (fun e' _ O=>by
         have hh:e'=e:=by rw[hei]at O;exact(Option.some.inj O).symm
         subst hh
         exact(XZ mU r (PRel.toV β st.gens _ _ kc2) I).trans N.symm)) (ks.set i (st.rho k')) (U.set i t') (by
         have:=PList.set i e3 kp
         have e5:(H.modify i fun e=>{e with key:=a.eval k,val:=a.eval x}).toList.map (·.key)=(H.toList.map (·.key)).set i (a.eval k):=by
          apply List.ext_getElem?;intro j
          rw[Array.toList_modify,List.getElem?_map,List.getElem?_modify,List.getElem?_set,List.getElem?_map]
          by_cases hj:i=j
          ·subst hj;rw[V];simp;exact(List.getElem?_eq_some_iff.1 V).1
          ·simp[hj]
         rw[e5];exact this) (by
         have:=PList.set i e4 q4'
         have e5:(H.modify i fun e=>{e with key:=a.eval k,val:=a.eval x}).toList.map (·.val)=(H.toList.map (·.val)).set i (a.eval x):=by
          apply List.ext_getElem?;intro j
          rw[Array.toList_modify,List.getElem?_map,List.getElem?_modify,List.getElem?_set,List.getElem?_map]
          by_cases hj:i=j
          ·subst hj;rw[V];simp;exact(List.getElem?_eq_some_iff.1 V).1
          ·simp[hj]
         rw[e5];exact this)
        refine⟨.skip,undef,_,β,M',run F _ clock r1 ?_,.inr ⟨rfl,rfl⟩,by rw[dO];exact Y,by rw[dO];exact(Tr.fz q2 q3).trans Z (Nat.le_refl _),by rw[eh];exact Nat.le_refl _,by simp[aq,aU,undef,av]⟩
        subst r3
        simp only[Sem.run_bind,X1,Result.andThen_ok]
        exact JV _ _
       ·rename_i hf
        simp at W;subst W
        obtain⟨F,r1,V⟩:=pt (P:=P) K r H.toList ks _ e3 hf
        have:F=none:=V
        subst this
        obtain⟨Y,Z⟩:=ak4 q1 PA (H.push {key:=a.eval k,val:=a.eval x,born:=clock}) (clock+1) (MapKept.stamped_push fF (fun y hy O=>by
         obtain⟨j,hj⟩:=List.getElem?_of_mem hy
         obtain⟨kx,X,I⟩:=e3.getV (j:=j) (v:=y.key) (by rw[List.getElem?_map,hj];rfl)
         rw[O]at I
         exact SD mU r (PRel.toV β st.gens _ _ I) (BT hf _ (List.mem_of_getElem? X)))) (ks++ [st.rho k']) (U++ [t']) (by
         simp only[Array.toList_push,List.map_append,List.map_cons,List.map_nil]
         exact PList.append e3 (by simp only[PList];exact⟨_,_,rfl,kp,rfl⟩)) (by
         simp only[Array.toList_push,List.map_append,List.map_cons,List.map_nil]
         exact PList.append e4 (by simp only[PList];exact⟨_,_,rfl,q4',rfl⟩))
        exact⟨.skip,undef,_,β,M',run none _ (clock+1) r1 (JV _ _),.inr ⟨rfl,rfl⟩,by rw[dO];exact Y,by rw[dO];exact(Tr.fz q2 q3).trans Z (Nat.le_refl _),by rw[eh];exact Nat.le_refl _,by simp[aq,aU,undef,av]⟩
       ·cases W
     ·simp[Q.run]at D
   ·simp[Q.run]at D
  ·simp[Q.run]at D
 ·simp[Q.run]at D
end
theorem E5(D:Nat): ∀(r c:Nat),c≤D+(D+768)/4→Builtin.growBy D r c≤D+(D+768)/4
 |0,c,h=>by simpa[Builtin.growBy]using h
 |r+1,c,h=>by
  simp only[Builtin.growBy]
  split
  ·exact h
  ·exact E5 D r _ zV
def aeA(Gz r:Nat)(h:r<Gz):Builtin.nextslicecap Gz r≤2*Gz+192:=by
 grind [Builtin.nextslicecap,E5]
def SE{Gz r bytes:Nat}(h:r<Gz)(D:Gz*bytes≤1099511627776)(h0:bytes≠0):Builtin.nextslicecap Gz r*bytes≤281474976710656:=by
 have h1:=Nat.mul_le_mul_right bytes (aeA Gz r h)
 have h2:bytes≤Gz*bytes:=Nat.le_mul_of_pos_left bytes zV
 grind
section
variable{P:Program}{B:eZ}{st:St}{a:Act}{w:World}{β:aQ}{M:MSet}{o:Oper}{v:T}{ups:List Up}
def DW(h:bh B st w β M){sz nx n:Nat}{x:T}{cx:Value}{xs:List T}(K:aq β st.gens w M x cx)(r:(cu sz x).run st.get nx=some (n,xs)):
  ∃news:List Value,(∀w':World,w'.heap=w.heap→(Builtin.lenOf cx).run P w'= .ok n w'∧(Builtin.firstCells sz n cx).run P w'= .ok news.toArray w')∧PList w M xs news∧xs.all single=true∧xs.length=n*sz:=by
 unfold cu at r
 split at r
 ·simp[Q.run]at r;obtain⟨rfl,rfl⟩:=r
  simp_all[aq,Builtin.lenOf,Builtin.firstCells,PList]
 ·rename_i cs len ex
  split at r
  ·rename_i O
   simp[Q.run]at r;obtain⟨rfl,rfl⟩:=r
   simp only[aq,PRel]at K
   obtain⟨U,off,V,sp,rfl,h1,h2,h5,h3⟩:=K
   obtain⟨W,e1,e2,e3,e4⟩:=PCells.load (P:=P) h3
   refine⟨W,fun w' Y=>⟨by simp[Builtin.lenOf], ?_⟩,e3,e4,O⟩
   have:=run_loadCells_list (P:=P) w' ⟨U,off,sp⟩ W (fun j u F=>by
    rcases h5 with h5|h5
    ·grind [World.cell?,dW]
    ·exfalso
     have hz:len=0:=zV
     have h0:W= []:=List.length_eq_zero_iff.1 (by rw[e1,O,hz,Nat.zero_mul])
     subst h0;simp at F)
   rw[e1,O]at this
   simp[Builtin.firstCells,this]
  ·simp[Q.run]at r
 ·rename_i sp k g off len H
  split at r
  ·rename_i I
   subst I
   simp only[Q.run]at r
   split at r
   ·rename_i Z
    have Ab:=h.obj sp k
    generalize he:st.get sp k=en at*
    obtain⟨N,ob⟩:=en
    dsimp only at Z;subst Z
    cases ob with
    |none=>simp[Q.run]at r
    |map _ _ _=>simp[Q.run]at r
    |cells cs wm bx=>
     cases bx with
     |true=>simp[Q.run]at r
     |false=>
      dsimp only at r
      split at r
      ·rename_i hle
       simp[Q.run]at r;obtain⟨rfl,rfl⟩:=r
       unfold dV at Ab
       obtain⟨c,el,fz,h1,h2,h3,h4,h5,h6,h7,h8⟩:=Ab
       dsimp only at h1 h2 h3 h5
       simp only[aq]at K
       obtain⟨q1,V,rfl,q2,q3⟩:=K
       have SC:=PList.take (len*H) (PList.drop off h5)
       rw[List.drop_take,List.drop_drop,List.take_take]at SC
       have X:min (len*H) (cs.length-off)=len*H:=zV
       rw[X]at SC
       have D:((cs.drop off).take (len*H)).length=len*H:=by simp;omega
       refine⟨(c.toList.drop ((β sp k N).off+off)).take (len*H),fun w' Y=>⟨by simp[Builtin.lenOf], ?_⟩,SC,iy h7 _ _,D⟩
       have Au:=PList.length _ _ SC
       rw[D]at Au
       have:=run_loadCells_list (P:=P) w' ⟨(β sp k N).blk,(β sp k N).off+off,none⟩ ((c.toList.drop ((β sp k N).off+off)).take (len*H)) (fun j u F=>by
        rw[dW]
        rw[List.getElem?_take]at F
        split at F
        ·rw[List.getElem?_drop]at F
         unfold World.cell?;rw[Y,h1];simpa using F
        ·cases F)
       rw[←Au]at this
       simp[Builtin.firstCells,this]
      ·simp[Q.run]at r
   ·simp[Q.run]at r
  ·simp[Q.run]at r
 ·rename_i l
  split at r
  ·rename_i I
   subst I
   simp[Q.run]at r;obtain⟨rfl,rfl⟩:=r
   obtain⟨J,rfl,rfl⟩:=K.str
   refine⟨J.data.toList.map fun b=> .int .u8 b.toNat,fun w' _=>⟨by simp[Builtin.lenOf,fM], ?_⟩, ?_, ?_,by simp⟩
   ·have e1:(J.extract 0 J.size).data=J.data:=by
     apply Array.ext'
     rw[ByteArray.data_extract,Array.toList_extract,List.extract_eq_take_drop]
     rw[List.drop_zero]
     exact List.take_of_length_le (by show J.data.toList.length≤J.data.size-0;simp)
    simp only[Builtin.firstCells,fM,e1,Sem.run_pure]
    congr 1
    apply Array.ext';simp
   ·unfold bytesN
    rw[List.map_map]
    generalize J.data.toList=l
    induction l with
    |nil=>simp[PList]
    |cons b l ih=>simp only[List.map_cons,PList];exact⟨_,_,rfl,by simp[PRel],ih⟩
   ·rw[List.all_eq_true];intro x hx;simp at hx;obtain⟨_,_,rfl⟩:=hx;rfl
  ·simp[Q.run]at r
 ·simp[Q.run]at r
def JW{t u ty e:TypeId}{D:TypeDesc}{i:TypeInfo}{z:Value}(K:P.underlying t=some (.slice e))(N:P.underlying u=some D)(F:D= .string∨ ∃J,D= .slice J)(hi:P.info? e=some i)(O:i.zero=some z)
  {base:Option Addr} {ed iq n:Nat} {cx:Value} {vV news:List Value} (U:(Builtin.lenOf cx).run P w= .ok n w) (E6:(Builtin.firstCells i.size n cx).run P w.drew= .ok news.toArray w.drew) (r:(Builtin.firstCells i.size ed (.slice base ed iq)).run P w.drew= .ok vV.toArray w.drew)
  (V:iq<ed+n) (W:(ed+n)*i.bytes≤1099511627776) (h0:i.bytes≠0):
  (Builtin.append_ #[t,u] ty #[.slice base ed iq,cx]).run P w= .ok (.slice (some ⟨w.heap.size,0,none⟩) (ed+n) (grownCap w (ed+n) iq e))
     (w.drew.alloc (.cells (vV.toArray++news.toArray++Builtin.zeroCells z.cells (grownCap w (ed+n) iq e-(ed+n))) e)):=by
 have H: ¬(ed+n≤iq):=zV
 have X:ed+n≤(ed+n)*i.bytes:=Nat.le_mul_of_pos_right _ zV
 have BU: ¬(9223372036854775807<((ed:Int)+(n:Int))):=zV
 have I: ¬(281474976710656<Builtin.nextslicecap (ed+n) iq*i.bytes):=by have:=SE V W h0;omega
 rcases F with rfl|⟨J,rfl⟩ <;>
 ·simp[Builtin.append_,run_underlying K,run_underlying N,sizeOf,typeInfo,zeroValue,hi,O,U,H,BU,I,Question.forced,E6,r,newRow,grownCap]
  grind
def qU{t u ty e:TypeId}{D:TypeDesc}{i:TypeInfo}(H:P.underlying t=some (.slice e))(I:P.underlying u=some D)(F:D= .string∨ ∃J,D= .slice J)(hi:P.info? e=some i)
  {base:Option Addr} {ed iq n:Nat} {cx:Value} {news:List Value} {w':World} (K:(Builtin.lenOf cx).run P w= .ok n w) (E6:(Builtin.firstCells i.size n cx).run P w= .ok news.toArray w)
  (N:ed+n≤iq) (r:match base with|some O=>(storeCells (O.add (ed*i.size)) news).run P w= .ok () w'|none=>w'=w):
  (Builtin.append_ #[t,u] ty #[.slice base ed iq,cx]).run P w= .ok (.slice base (ed+n) iq) w':=by
 rcases F with rfl|⟨J,rfl⟩ <;>
 ·cases base with
  |none=>
   dsimp only at r;subst r
   simp[Builtin.append_,run_underlying H,run_underlying I,sizeOf,typeInfo,hi,K,N,E6]
  |some O=>
   dsimp only at r
   simp[Builtin.append_,run_underlying H,run_underlying I,sizeOf,typeInfo,hi,K,N,E6,r]
def aeB{bx:Bool}(h:bh B st w β M)(el:TypeId)(c:Array Value)(cs:List T)(r:Nat)(sp:Sp)(k g:Nat)(F:st.gens sp k<g)
  (H:PList w M cs (c.toList.take cs.length)) (hs:cs.all single=true) (D:cs.length≤c.size) (JR:r≤cs.length):
  bh B (st.up (sp,k,⟨g,.cells cs r bx⟩)) (w.alloc (.cells c el)) (iw β sp k g ⟨w.heap.size,0,c.size⟩) (fun b x=>M b x∨b=w.heap.size)∧
  Tr st w β M (st.up (sp,k,⟨g,.cells cs r bx⟩)) (w.alloc (.cells c el)) (iw β sp k g ⟨w.heap.size,0,c.size⟩) (fun b x=>M b x∨b=w.heap.size):=by
 refine XL h sp k g F (.cells c el) c.size (.cells cs r bx) ?_
 unfold dV
 simp only[bN]
 refine⟨c,el,(0,0),by rw[heap_alloc,if_pos rfl],by omega,D,rfl, ?_,fun j _ _=>Or.inr (by trivial),hs,JR⟩
 simp only[List.drop_zero]
 exact ky.ofP (PList.mono (pn w M _) _ _ H)
variable(dS:kD β st.gens w M st.rho a.eval)(h:bh B st w β M)
include dS h
theorem anM{d:Nat}{sh nm:Bool}{c:Call}{t u e:TypeId}{ud:TypeDesc}{i:TypeInfo}{z:Value}{s x:Operand}{s' x':aV}(ho:o.op= .call c)(hb:c.callee= .builtin .append)(X:c.argTypes.toList= [t,u])(has:c.args.toList= [s,x])
  (ht:P.underlying t=some (.slice e)) (I:P.underlying u=some ud) (Y:ud= .string∨ ∃e',ud= .slice e') (hi:P.info? e=some i) (hz:i.zero=some z) (hsz:i.size=z.cells.size) (h0:i.size≠0) (hby:i.bytes≠0) (hs:eV s=some s') (hx:eV x=some x')
  (D:(bB d st.rho (.app i.size i.bytes s' x' sh nm)).run st.get st.sh.length=some (.val v ups)):eo P B st a w β M o v ups:=by
 have V:=dS s s' hs
 have vx:=dS x x' hx
 have hty:c.argTypes= #[t,u]:=by apply Array.ext';simp[X]
 have N: ∀cv w',(Builtin.append_ #[t,u] o.type #[a.eval s,a.eval x]).run P w= .ok cv w'→(execOp a.eval o).run P w= .ok (.value cv) w':=by
  intro cv w' hr
  rw[eb ho hb,aeq has,hty]
  simp[builtin,hr]
 simp only[bB,kq,Q.run_bind]at D
 cases fw:(cu i.size (st.rho x')).run st.get st.sh.length with
 |none=>grind
 |some p=>
  obtain⟨n,xs⟩:=p
  simp only[fw,Option.bind_some]at D
  obtain⟨news,vW,n1,n2,n3⟩:=DW (P:=P) h vx fw
  have MW:news.length=n*i.size:=by rw[←PList.length _ _ n1,n3]
  by_cases hn0:n=0
  ·rw[if_pos hn0]at D
   subst hn0
   have E6:news= []:=by apply List.eq_nil_of_length_eq_zero;simpa using MW
   subst E6
   have same: ∀base ed iq,a.eval s= .slice base ed iq→ed≤iq→eo P B st a w β M o (st.rho s') []:=by
    intro base ed iq W hle
    refine aY h (cv:= .slice base ed iq) ?_ (by rw[←W];exact V)
    have:=qU (P:=P) (w:=w) (w':=w) (t:=t) (u:=u) (ty:=o.type) (base:=base) (ed:=ed) (iq:=iq) (cx:=a.eval x) (n:=0) (news:= []) ht I Y hi (vW w rfl).1 (vW w rfl).2 zV (by cases base <;> simp[storeCells])
    exact N _ _ (by rw[W];exact this)
   grind [Q.run,aq,PRel]
  ·rw[if_neg hn0]at D
   have hz0:z.cells.size≠0:=zV
   have O: ∀(bx:Bool) (base:Option Addr) (ed iq:Nat) (vV:List Value) (Z:List T) (sp:Sp) (k g wm:Nat),a.eval s= .slice base ed iq→iq<ed+n→(ed+n)*i.bytes≤1099511627776→PList w M Z vV→Z.all single=true→Z.length=ed*i.size→
     (Builtin.firstCells i.size ed (.slice base ed iq)).run P w.drew= .ok vV.toArray w.drew→st.gens sp k<g→wm≤Z.length→eo P B st a w β M o (.isl sp k g 0 (ed+n) i.size) [(sp,k,⟨g,.cells (Z++xs) wm bx⟩)]:=by
    intro bx base ed iq vV Z sp k g wm W hlt J ho1 ho2 ho3 hfc hg JR
    have hr:=JW (P:=P) (w:=w) (t:=t) (u:=u) (ty:=o.type) (base:=base) (ed:=ed) (iq:=iq) (cx:=a.eval x) (n:=n) (vV:=vV) (news:=news) ht I Y hi hz (vW w rfl).1 (vW w.drew rfl).2 hfc hlt J hby
    obtain⟨hd1,hd2⟩:=Gs h (w.drawn+1)
    have hol:vV.length=ed*i.size:=by rw[←PList.length _ _ ho1,ho3]
    have BN:=grownCap_ge w (ed+n) iq e
    have hcs:(vV.toArray++news.toArray++Builtin.zeroCells z.cells (grownCap w (ed+n) iq e-(ed+n))).size=grownCap w (ed+n) iq e*i.size:=by
     rw[Array.size_append,Array.size_append,size_zeroCells]
     simp only[List.size_toArray,hol,MW,←hsz]
     rw[←Nat.add_mul,←Nat.add_mul];congr 1;omega
    have F:(Z++xs).length=vV.length+news.length:=by simp[ho3,n3,hol,MW]
    obtain⟨r1,r2⟩:=aeB (bx:=bx) hd1 e (vV.toArray++news.toArray++Builtin.zeroCells z.cells (grownCap w (ed+n) iq e-(ed+n))) (Z++xs) wm sp k g hg (by
     have:(vV.toArray++news.toArray++Builtin.zeroCells z.cells (grownCap w (ed+n) iq e-(ed+n))).toList.take (Z++xs).length=vV++news:=by
      rw[F]
      simp only[Array.toList_append,List.toList_toArray]
      rw[List.take_append_of_le_length yv]
      exact List.take_of_length_le yv
     rw[this]
     exact PList.mono hd2.keep _ _ (PList.append ho1 n1)) (by simp only[List.all_append,Bool.and_eq_true];exact⟨ho2,n2⟩) (by
     rw[hcs,F,hol,MW,←Nat.add_mul];exact Nat.mul_le_mul_right _ BN) (by simp;omega)
    refine⟨_,_,_,_,_,N _ _ (by rw[W];exact hr),.inl rfl,r1,hd2.trans r2 (Nat.le_refl _), ?_, ?_⟩
    ·show w.heap.size≤(w.heap.push _).size;simp
    ·simp only[aq]
     refine⟨by simp[St.ups,eD],grownCap w (ed+n) iq e, ?_,BN, ?_⟩
     ·rw[bN]
     ·rw[bN,hcs];exact Nat.le_of_eq (Nat.zero_add _)
   split at D
   ·rename_i W
    rw[W]at V;simp only[aq]at V
    split at D
    ·rename_i J
     unfold roomy at J
     obtain⟨sp,k,g,rfl,rfl,hg,_⟩:=jS D
     have:=O (nm&& !sh) none 0 0 [] [] sp k g 0 V zV (by simpa using J) (by simp[PList]) rfl yv (by simp[Builtin.firstCells]) hg (Nat.zero_le _)
     simpa using this
    ·simp[Q.run]at D
   ·rename_i cs len W
    rw[W]at V;simp only[aq,PRel]at V
    obtain⟨blk,off,H,dB,e1,e2,e3,e5,e4⟩:=V
    have:=e3 trivial;subst this
    split at D
    ·rename_i J
     simp at J
     unfold roomy at J
     obtain⟨sp,k,g,rfl,rfl,hg,_⟩:=jS D
     obtain⟨ol,f1,f2,f3,f4⟩:=PCells.load (P:=P) e4
     refine O false _ _ _ ol cs sp k g 0 e1 zV J.2 f3 f4 J.1 ?_ hg (Nat.zero_le _)
     have:=run_loadCells_list (P:=P) w.drew ⟨blk,off,dB⟩ ol (fun j u I=>by
      rcases e5 with e5|e5
      ·subst e5
       rw[dW];have:=f2 j u I;unfold World.cell? at this ⊢; exact this
      ·exfalso
       have h0:ol= []:=List.length_eq_zero_iff.1 (by rw[f1,J.1,e5,Nat.zero_mul])
       subst h0;simp at I)
     rw[f1,J.1]at this
     simp[Builtin.firstCells,this]
    ·simp[Q.run]at D
   ·rename_i sp k g off len sz W
    rw[W]at V;simp only[aq]at V
    obtain⟨q1,H,e1,e2,e3⟩:=V
    split at D
    ·rename_i J
     simp at J
     unfold roomy at J
     obtain⟨⟨rfl,rfl⟩,J⟩:=J
     simp only[Q.run]at D
     split at D
     ·rename_i hg
      have Ab:=h.obj sp k
      generalize he:st.get sp k=en at*
      obtain⟨r,ob⟩:=en
      dsimp only at hg;subst hg
      cases ob with
      |none=>simp[Q.run]at D
      |map _ _ _=>simp[Q.run]at D
      |cells cs wm bx=>
       cases bx with
       |true=>simp[Q.run]at D
       |false=>
        dsimp only at D
        split at D
        ·rename_i F
         simp[Q.run]at D;obtain⟨rfl,rfl⟩:=D
         unfold dV at Ab
         obtain⟨K,el,fz,h1,h2,h3,h4,h5,h6,h7,h8⟩:=Ab
         dsimp only at h1 h2 h3 h4 h5 h6
         subst h4
         have E7:st.gens sp k=r:=by show(st.get sp k).g=r;rw[he]
         by_cases MX:len+n≤H
         ·have X3:(len+n)*i.size≤H*i.size:=Nat.mul_le_mul_right _ MX
          rw[Nat.add_mul]at X3
          have XX:=av.one (PList.toV β st.gens _ _ n1) n2
          have fF:=run_storeCells_at P (β sp k r).blk ((β sp k r).off+len*i.size) el news 0 K w h1 zV XX
          rw[kZ h1]at fF
          simp only[Nat.add_zero]at fF
          rw[BS _ _ _ (by simp;omega)]at fF
          have hr:=qU (P:=P) (w:=w) (t:=t) (u:=u) (ty:=o.type) (base:=some ⟨(β sp k r).blk,(β sp k r).off+0,none⟩) (ed:=len) (iq:=H) (cx:=a.eval x) (n:=n) (news:=news) ht I Y hi (vW w rfl).1 (vW w rfl).2 MX (by
           dsimp only;rw[dW];simpa using fF)
          have U:=vR h he (r+1) (Nat.le_succ _) h1 (len*i.size) news (cs++xs) zV zV (by simp;omega) (by simp[n3];omega) (by simp only[List.all_append,Bool.and_eq_true];exact⟨h7,n2⟩) (by
           show PList w M _ _
           have h5:PList w M cs _:=h5
           have:(splice (K.toList.drop (β sp k r).off) (len*i.size) news).take (cs++xs).length=(K.toList.drop (β sp k r).off).take cs.length++news:=by
            rw[←BS _ _ _ (by simp;omega),F,List.take_append_of_le_length (by simp[n3,MW];omega)]
            exact List.take_of_length_le (by simp[n3,MW];omega)
           rw[this]
           exact PList.append h5 n1)
          refine⟨_,_,_,_,_,N _ _ (by rw[e1];exact hr),.inl rfl,U.1,U.2,by rw[eh];exact Nat.le_refl _, ?_⟩
          simp only[aq]
          refine⟨by simp[St.ups,eD],H,by rw[bN],MX,by rw[bN];exact e3⟩
         ·have SC:PList w M cs ((K.toList.drop (β sp k r).off).take cs.length):=h5
          refine O false _ len H ((K.toList.drop (β sp k r).off).take cs.length) cs sp k (r+1) wm e1 zV J SC h7 F.symm ?_ (by rw[E7];omega) h8
          have Au:=PList.length _ _ SC
          have:=run_loadCells_list (P:=P) w.drew ⟨(β sp k r).blk,(β sp k r).off+0,none⟩ ((K.toList.drop (β sp k r).off).take cs.length) (fun j u I=>by
           rw[dW]
           rw[List.getElem?_take]at I
           split at I
           ·rw[List.getElem?_drop]at I
            unfold World.cell?
            show(match w.heap[(β sp k r).blk]? with|some (.cells c _ _)=>if(none:Option Nat).isSome then none else c[(β sp k r).off+0+j]? |_=>none)=some u
            rw[h1];simpa using I
           ·cases I)
          rw[←Au]at this
          simp only[Builtin.firstCells]
          rw[F]
          exact this
        ·split at D
         ·rename_i hpt
          simp only[Bool.and_eq_true,decide_eq_true_eq]at hpt
          obtain⟨⟨⟨rfl,rfl⟩,F⟩,Ae⟩:=hpt
          simp[Q.run]at D;obtain⟨rfl,rfl⟩:=D
          unfold dV at Ab
          obtain⟨K,el,fz,h1,h2,h3,h4,h5,h6,h7,h8⟩:=Ab
          dsimp only at h1 h2 h3 h4 h5 h6
          subst h4
          have E7:st.gens sp k=r:=by show(st.get sp k).g=r;rw[he]
          have SC:PList w M cs ((K.toList.drop (β sp k r).off).take cs.length):=h5
          have h5t:PList w M (cs.take (len*i.size)) ((K.toList.drop (β sp k r).off).take (len*i.size)):=by
           have:=PList.take (len*i.size) SC
           rwa [List.take_take,Nat.min_eq_left zV]at this
          have E8:(cs.take (len*i.size)).length=len*i.size:=by rw[List.length_take];omega
          have X:(cs.take (len*i.size)).all single=true:=List.all_eq_true.2 fun x hx=>List.all_eq_true.1 h7 x (List.mem_of_mem_take hx)
          by_cases MX:len+n≤H
          ·have X3:(len+n)*i.size≤H*i.size:=Nat.mul_le_mul_right _ MX
           rw[Nat.add_mul]at X3
           have XX:=av.one (PList.toV β st.gens _ _ n1) n2
           have fF:=run_storeCells_at P (β sp k r).blk ((β sp k r).off+len*i.size) el news 0 K w h1 zV XX
           rw[kZ h1]at fF
           simp only[Nat.add_zero]at fF
           rw[BS _ _ _ (by simp;omega)]at fF
           have hr:=qU (P:=P) (w:=w) (t:=t) (u:=u) (ty:=o.type) (base:=some ⟨(β sp k r).blk,(β sp k r).off+0,none⟩) (ed:=len) (iq:=H) (cx:=a.eval x) (n:=n) (news:=news) ht I Y hi (vW w rfl).1 (vW w rfl).2 MX (by
            dsimp only;rw[dW];simpa using fF)
           have U:=vR h he (r+1) (Nat.le_succ _) h1 (len*i.size) news (cs.take (len*i.size)++xs) Ae zV (by rw[List.length_append,E8];omega) (by rw[List.length_append,E8,n3];omega) (by simp only[List.all_append,Bool.and_eq_true];exact⟨X,n2⟩) (by
            show PList w M _ _
            have:(splice (K.toList.drop (β sp k r).off) (len*i.size) news).take (cs.take (len*i.size)++xs).length=(K.toList.drop (β sp k r).off).take (len*i.size)++news:=by
             have hl9:len*i.size+news.length≤(K.toList.drop (β sp k r).off).length:=by simp;omega
             rw[←BS _ _ _ (by simp;omega),List.length_append,E8,n3,←MW]
             rw[List.take_append_of_le_length (by simp;omega)]
             exact List.take_of_length_le (by simp;omega)
            rw[this]
            exact PList.append h5t n1)
           refine⟨_,_,_,_,_,N _ _ (by rw[e1];exact hr),.inl rfl,U.1,U.2,by rw[eh];exact Nat.le_refl _, ?_⟩
           simp only[aq]
           refine⟨by simp[St.ups,eD],H,by rw[bN],MX,by rw[bN];exact e3⟩
          ·refine O false _ len H ((K.toList.drop (β sp k r).off).take (len*i.size)) (cs.take (len*i.size)) sp k (r+1) wm e1 zV J h5t X E8 ?_ (by rw[E7];omega) (by rw[E8];exact Ae)
           have Au:=PList.length _ _ h5t
           rw[E8]at Au
           have:=run_loadCells_list (P:=P) w.drew ⟨(β sp k r).blk,(β sp k r).off+0,none⟩ ((K.toList.drop (β sp k r).off).take (len*i.size)) (fun j u I=>by
            rw[dW]
            rw[List.getElem?_take]at I
            split at I
            ·rw[List.getElem?_drop]at I
             unfold World.cell?
             show(match w.heap[(β sp k r).blk]? with|some (.cells c _ _)=>if(none:Option Nat).isSome then none else c[(β sp k r).off+0+j]? |_=>none)=some u
             rw[h1];simpa using I
            ·cases I)
           rw[←Au]at this
           simp only[Builtin.firstCells]
           exact this
         ·simp[Q.run]at D
     ·simp[Q.run]at D
    ·simp[Q.run]at D
   ·simp[Q.run]at D
end
def aeC{P:Program}{β:aQ}{G:Sp→Nat→Nat}{w:World}{M:MSet}{s t e:TypeId}{k:Nat}{ex:Bool}{v:Value}(hs:P.underlying s=some (.slice e))(J:P.underlying e=some (.int .u8))(K:P.underlying t=some .string)(H:aq β G w M (.sl [.i .u8 (k:Int)] 1 ex) v)(hk:k<256):
  ∃I,(convert s t v).run P w= .ok (.string I) w∧bytesN I= [k]:=by
 simp only[aq,PRel,PCells]at H
 obtain⟨r,off,N,sp,rfl,h1,h2,h3,⟨u,h4,h5,rfl,h6⟩,_⟩:=H
 have D:sp=none:=h3.resolve_right zV
 subst D
 have:=run_loadCells_list (P:=P) w ⟨r,off,none⟩ [.int .u8 k] (fun j u F=>by
  cases j with
  |zero=>simp at F;subst F;rw[dW];exact h4
  |succ j=>simp at F)
 simp only[List.length_cons,List.length_nil,Nat.zero_add]at this
 refine⟨ByteArray.empty.push (UInt8.ofNat k), ?_, ?_⟩
 ·simp[convert,run_underlying hs,run_underlying K,run_underlying J,Conv.bytesToString,this]
 ·have:(UInt8.ofNat k).toNat=k:=by simp[UInt8.toNat_ofNat'];omega
  show [(UInt8.ofNat k).toNat]= [k]
  rw[this]
section
variable{P:Program}{B:eZ}{st:St}{a:Act}{w:World}{β:aQ}{M:MSet}{o:Oper}{v:T}{ups:List Up}
def mh{x:Option T}{h:Sp→Nat→ah}{nx:Nat}(r:(Ev.val x).run h nx=some (.val v ups)):x=some v∧ups= []:=by
 cases x with
 |none=>simp[Ev.val,Q.run]at r
 |some y=>grind [Ev.val,Q.run]
theorem aeD(dS:kD β st.gens w M st.rho a.eval)(h:bh B st w β M){c:Call}(r:o.op= .call c){sh:Nat}{Mo:mP}{d:Nat}(hc:oh P sh c=some Mo)
  (D:(bB d st.rho Mo).run st.get st.sh.length=some (.val v ups)):eo P B st a w β M o v ups:=by
 unfold oh at hc
 split at hc
 ·grind [Option.map_eq_some_iff,bB,Q.run]
 ·grind [bB,Q.run]
 ·grind [bB,Q.run,aer,aes,aet,aeu]
 ·rename_i F
  split at hc
  ·rename_i t u x y h1 h2
   split at hc
   ·grind [anM]
   ·cases hc
  ·cases hc
 ·grind [Option.map_eq_some_iff,akZ]
 ·grind [Option.map_eq_some_iff,akZ]
 ·cases hc
def anO(dS:kD β st.gens w M st.rho a.eval)(h:bh B st w β M){s t e:TypeId}{x:Operand}{r:aV}(H:o.op= .convert s t x)(hx:eV x=some r)(hs:P.underlying s=some (.slice e))(I:P.underlying e=some (.int .u8))(J:P.underlying t=some .string){k:Nat}{ex:Bool}(K:st.rho r= .sl [.i .u8 (k:Int)] 1 ex)(hk:k<256):eo P B st a w β M o (.s [k]) []:=by
 have D:=dS x r hx
 rw[K]at D
 obtain⟨F,e1,e2⟩:=aeC hs I J D hk
 exact aY h (cv:= .string F) (by simp[execOp,H,e1]) (by simp only[aq];exact⟨F,rfl,e2⟩)
def az3(dS:kD β st.gens w M st.rho a.eval)(h:bh B st w β M){sh:Nat}{Mo:mP}{d:Nat}(hc:cH P sh o.op=some Mo)
  (D:(bB d st.rho Mo).run st.get st.sh.length=some (.val v ups)):eo P B st a w β M o v ups:=by
 cases BV:o.op with
 |move x=>
  grind [cH,Option.map_eq_some_iff,bB,Q.run,akX]
 |assign x=>
  rw[BV]at hc;simp only[cH,Option.map_eq_some_iff]at hc
  obtain⟨y,h1,rfl⟩:=hc
  simp[bB,Q.run]at D;obtain⟨rfl,rfl⟩:=D
  simp_all[akX]
 |pick c x y=>
  grind [cH,bB,Q.run,ael]
 |alloc t=>
  grind [cH,XU]
 |box t x=>
  grind [cH,Option.map_eq_some_iff,anG]
 |build t ps=>
  grind [cH,Option.map_eq_some_iff,XQ]
 |buildSlice t len ps=>
  grind [cH,anJ]
 |load t x=>
  grind [cH,azM]
 |store t x y=>
  grind [cH,azW]
 |nilCheck x=>
  grind [cH,Option.map_eq_some_iff,anr]
 |binOp op t x y W=>
  rw[BV]at hc;simp only[cH]at hc
  split at hc
  ·rename_i X Y h1 h2
   split at hc
   ·rename_i hk
    simp at hc;subst hc
    obtain⟨e1,rfl⟩:=mh D
    simp only[Option.map_eq_some_iff]at e1
    obtain⟨r,e2,rfl⟩:=e1
    exact Px (neg:=false) dS h BV h1 h2 (by have:=pq hk;simp[BH,this]) yv e2
   ·rename_i hk
    simp at hc;subst hc
    obtain⟨e1,rfl⟩:=mh D
    simp only[Option.map_eq_some_iff]at e1
    obtain⟨r,e2,rfl⟩:=e1
    exact Px (neg:=true) dS h BV h1 h2 (by have:=pq hk;simp[BH,this]) yv e2
   ·simp at hc;subst hc
    obtain⟨e1,rfl⟩:=mh D
    grind [ans]
   ·rename_i hk
    simp only[Option.map_eq_some_iff]at hc
    obtain⟨k,h3,rfl⟩:=hc
    obtain⟨e1,rfl⟩:=mh D
    simp only[Option.map_eq_some_iff]at e1
    obtain⟨r,e2,rfl⟩:=e1
    refine Px (neg:=false) dS h BV h1 h2 h3 ?_ e2
    have H:=mc h3
    grind
   ·rename_i hk
    simp only[Option.map_eq_some_iff]at hc
    obtain⟨k,h3,rfl⟩:=hc
    obtain⟨e1,rfl⟩:=mh D
    simp only[Option.map_eq_some_iff]at e1
    obtain⟨r,e2,rfl⟩:=e1
    refine Px (neg:=true) dS h BV h1 h2 h3 ?_ e2
    have H:=mc h3
    grind
   ·cases hc
  ·cases hc
 |unOp op t x=>
  rw[BV]at hc;simp only[cH,Option.map_eq_some_iff]at hc
  obtain⟨y,h1,rfl⟩:=hc
  obtain⟨e1,rfl⟩:=mh D
  grind [azL]
 |convert s t x=>
  rw[BV]at hc;simp only[cH]at hc
  split at hc
  ·grind [bB,Q.run,anu]
  ·rename_i e y h1 h2 h3
   split at hc
   ·rename_i h4
    simp at hc;subst hc
    simp only[bB]at D
    split at D
    ·rename_i k ex h5
     split at D
     ·rename_i hk
      simp[Q.run]at D;obtain⟨rfl,rfl⟩:=D
      exact anO dS h BV h3 h1 h4 h2 h5 hk
     ·simp[Q.run]at D
    ·simp[Q.run]at D
   ·cases hc
  ·cases hc
 |makeFunc J first K=>
  rw[BV]at hc
  cases J <;> simp only[cH]at hc <;> try (cases hc;done)
  grind [bB,Q.run,aeo]
 |makeMap t r=>
  rw[BV]at hc
  cases r <;> simp only[cH]at hc
  ·grind [XV]
  ·cases hc
 |makeSlice t l c=>
  grind [cH,aev]
 |slice t x l N m=>
  rw[BV]at hc;simp only[cH]at hc
  split at hc
  ·rename_i y O U h1 h2 h3 h4 h5
   simp at hc;subst hc
   have I:m=none:=by cases m <;> simp[qw]at h5 ⊢
   grind [anC]
  ·rename_i e y O U Z h1 h2 h3 h4 h5
   split at hc
   ·rename_i n V
    split at hc
    ·rename_i F
     simp at F hc;subst hc
     refine anD dS h BV h2 h3 h4 h5 h1 V F.1 ?_ D
     intro I
     rcases F.2 with e1|e1
     ·cases m with
      |none=>simp at I
      |some mm=>grind [qw,Option.map_eq_some_iff]
     ·cases N with
      |none=>grind [qw]
      |some _=>rfl
    ·cases hc
   ·cases hc
  ·cases hc
 |fieldAddr s x f=>
  grind [cH,azN]
 |field s x f=>
  grind [cH,anx]
 |indexAddr t x j=>
  grind [cH,azO,anB]
 |index t x j=>
  grind [cH,anA,anz]
 |lookup t m k ok=>
  grind [cH,azY]
 |mapUpdate t m k x=>
  grind [cH,Option.map_eq_some_iff,azZ]
 |extract x j=>
  rw[BV]at hc;simp only[cH,Option.map_eq_some_iff]at hc
  obtain⟨y,h1,rfl⟩:=hc
  simp only[bB]at D
  split at D
  ·rename_i vs e
   obtain⟨e1,rfl⟩:=mh D
   grind [anv]
  ·simp[Q.run]at D
 |call c=>grind [cH,aeD]
 |_=>grind [cH]
end
end Go.Ev
