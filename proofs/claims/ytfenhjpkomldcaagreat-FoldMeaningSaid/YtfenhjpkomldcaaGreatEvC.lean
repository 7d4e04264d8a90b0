/- A tree evaluator over the model, proved against it (part C): where it answers, the call returns that answer. Conditions: none beyond its theorems' own. -/
import Derived.Test.YtfenhjpkomldcaaGreatEvB
import Derived.Laws.Tables
set_option linter.unusedSimpArgs false
set_option linter.unusedVariables false
namespace Go.Ev
open Go
theorem zeroT_ok{P:Program}{t:TypeId}{z:T}(h:zeroT P t=some z): ∃i zv,P.info? t=some i∧i.zero=some zv∧constT zv=some z:=by
 unfold zeroT at h
 cases hi:P.info? t with
 |none=>simp[hi]at h
 |some i=>
  simp only[hi,Option.bind_some]at h
  cases hz:i.zero with
  |none=>simp[hz]at h
  |some zv=>simp only[hz,Option.bind_some]at h;exact⟨i,zv,rfl,hz,h⟩
theorem zeroT_run{P:Program}{t:TypeId}{z:T}(h:zeroT P t=some z)(w:World): ∃zv,(zeroValue t).run P w= .ok zv w∧ ∀w M,PRel w M z zv:=by
 obtain⟨i,zv,h1,h2,h3⟩:=zeroT_ok h
 exact⟨zv,by simp[zeroValue,typeInfo,h1,h2],fun w M=>constT_rel h3⟩
theorem cells_V{β:Beta}{G:Sp→Nat→Nat}{w:World}{M:MSet}{t:T}{cv:Value}(h:VRel β G w M t cv)(hn:noTup t=true):VList β G w M (cellsOf t) cv.cells.toList∧(cellsOf t).all single=true:=by
 cases t
 case agg cs=>
  simp only[VRel]at h
  obtain⟨a,rfl,h1,h2⟩:=h
  exact⟨h1,h2⟩
 case tup cs=>simp[noTup]at hn
 all_goals
  have h':=h
  simp only[VRel,PRel]at h
  refine⟨?_,rfl⟩
  simp only[cellsOf,VList]
  refine⟨cv,[], ?_,h',rfl⟩
  first
   |(subst h;rfl)
   |(obtain⟨_,rfl,_⟩:=h;rfl)
   |(obtain⟨_,_,rfl,_⟩:=h;rfl)
   |(obtain⟨_,_,_,rfl,_⟩:=h;rfl)
   |(obtain⟨_,_,_,_,rfl,_⟩:=h;rfl)
   |(obtain⟨_,rfl⟩:=h;rfl)
theorem cells_P{w:World}{M:MSet}{t:T}{cv:Value}(h:PRel w M t cv)(hn:noTup t=true):PList w M (cellsOf t) cv.cells.toList∧(cellsOf t).all single=true:=by
 cases t
 case agg cs=>
  simp only[PRel]at h
  obtain⟨a,rfl,h1,h2⟩:=h
  exact⟨h1,h2⟩
 case tup cs=>simp[noTup]at hn
 case isl=>simp only[PRel]at h
 case ptr=>simp only[PRel]at h
 case mp=>simp only[PRel]at h
 all_goals
  have h':=h
  simp only[PRel]at h
  refine⟨?_,rfl⟩
  simp only[cellsOf,PList]
  refine⟨cv,[], ?_,h',rfl⟩
  first
   |(subst h;rfl)
   |(obtain⟨_,rfl,_⟩:=h;rfl)
   |(obtain⟨_,_,rfl,_⟩:=h;rfl)
   |(obtain⟨_,_,_,rfl,_⟩:=h;rfl)
   |(obtain⟨_,_,_,_,rfl,_⟩:=h;rfl)
theorem splice_length{α:Type}: ∀(cs:List α) (off:Nat) (vs:List α),(splice cs off vs).length=cs.length
 |cs,0,[]=>by cases cs <;> simp[splice]
 | [],0,v::vs=>by simp[splice]
 |c::cs,0,v::vs=>by simp[splice,splice_length cs 0 vs]
 | [],off+1,vs=>by simp[splice]
 |c::cs,off+1,vs=>by simp[splice,splice_length cs off vs]
theorem splice_nil{α:Type}: ∀(cs:List α) (off:Nat),splice cs off []=cs
 |cs,0=>by cases cs <;> simp[splice]
 | [],off+1=>by simp[splice]
 |c::cs,off+1=>by simp[splice,splice_nil cs off]
theorem splice_cons{α:Type}: ∀(cs:List α) (off:Nat) (v:α) (vs:List α),splice (cs.set off v) (off+1) vs=splice cs off (v::vs)
 | [],off,v,vs=>by cases off <;> simp[splice]
 |c::cs,0,v,vs=>by simp[splice]
 |c::cs,off+1,v,vs=>by simp[splice,splice_cons cs off v vs]
theorem splice_get{α:Type}: ∀(cs:List α) (off:Nat) (vs:List α) (j:Nat),(splice cs off vs)[j]? =if off≤j∧j<off+vs.length∧j<cs.length then vs[j-off]? else cs[j]?
 |cs,0,[],j=>by rw[splice_nil];simp
 | [],0,v::vs,j=>by simp[splice]
 |c::cs,0,v::vs,0=>by simp[splice]
 |c::cs,0,v::vs,j+1=>by simp[splice,splice_get cs 0 vs j]
 | [],off+1,vs,j=>by simp[splice]
 |c::cs,off+1,vs,0=>by simp[splice]
 |c::cs,off+1,vs,j+1=>by
  simp only[splice,List.getElem?_cons_succ,splice_get cs off vs j,List.length_cons]
  have e:j+1-(off+1)=j-off:=by omega
  rw[e]
  by_cases hc:off≤j∧j<off+vs.length∧j<cs.length
  ·rw[if_pos hc,if_pos (by omega)]
  ·rw[if_neg hc,if_neg (by omega)]
theorem VList.splice{β:Beta}{G:Sp→Nat→Nat}{w:World}{M:MSet}: ∀{cs:List T} {cvs:List Value} {off:Nat} {vs:List T} {vvs:List Value},VList β G w M cs cvs→VList β G w M vs vvs→VList β G w M (splice cs off vs) (splice cvs off vvs)
 |cs,cvs,0,[],vvs,h1,h2=>by simp only[VList]at h2;subst h2;rw[splice_nil,splice_nil];exact h1
 | [],cvs,0,v::vs,vvs,h1,h2=>by simp only[VList]at h1;subst h1;obtain⟨u,us,rfl,_⟩:=h2;simp[Ev.splice,VList]
 |c::cs,cvs,0,v::vs,vvs,h1,h2=>by
  simp only[VList]at h1 h2
  obtain⟨a,as,rfl,p1,p2⟩:=h1
  obtain⟨u,us,rfl,q1,q2⟩:=h2
  simp only[Ev.splice,VList]
  exact⟨u,_,rfl,q1,VList.splice p2 q2⟩
 | [],cvs,off+1,vs,vvs,h1,h2=>by simp only[VList]at h1;subst h1;simp[Ev.splice,VList]
 |c::cs,cvs,off+1,vs,vvs,h1,h2=>by
  simp only[VList]at h1
  obtain⟨a,as,rfl,p1,p2⟩:=h1
  simp only[Ev.splice,VList]
  exact⟨a,_,rfl,p1,VList.splice p2 h2⟩
theorem PList.splice{w:World}{M:MSet}: ∀{cs:List T} {cvs:List Value} {off:Nat} {vs:List T} {vvs:List Value},PList w M cs cvs→PList w M vs vvs→PList w M (splice cs off vs) (splice cvs off vvs)
 |cs,cvs,0,[],vvs,h1,h2=>by simp only[PList]at h2;subst h2;rw[splice_nil,splice_nil];exact h1
 | [],cvs,0,v::vs,vvs,h1,h2=>by simp only[PList]at h1;subst h1;obtain⟨u,us,rfl,_⟩:=h2;simp[Ev.splice,PList]
 |c::cs,cvs,0,v::vs,vvs,h1,h2=>by
  simp only[PList]at h1 h2
  obtain⟨a,as,rfl,p1,p2⟩:=h1
  obtain⟨u,us,rfl,q1,q2⟩:=h2
  simp only[Ev.splice,PList]
  exact⟨u,_,rfl,q1,PList.splice p2 q2⟩
 | [],cvs,off+1,vs,vvs,h1,h2=>by simp only[PList]at h1;subst h1;simp[Ev.splice,PList]
 |c::cs,cvs,off+1,vs,vvs,h1,h2=>by
  simp only[PList]at h1
  obtain⟨a,as,rfl,p1,p2⟩:=h1
  simp only[Ev.splice,PList]
  exact⟨a,_,rfl,p1,PList.splice p2 h2⟩
theorem splice_all{p:T→Bool}{cs vs:List T}{off:Nat}(h1:cs.all p=true)(h2:vs.all p=true):(splice cs off vs).all p=true:=by
 rw[List.all_eq_true]at*
 intro x hx
 obtain⟨j,hj⟩:=List.getElem?_of_mem hx
 rw[splice_get]at hj
 split at hj
 ·exact h2 x (List.mem_of_getElem? hj)
 ·exact h1 x (List.mem_of_getElem? hj)
theorem foldl_set(off:Nat): ∀(vs:List Value) (s:Nat) (cells:Array Value),((vs.zipIdx s).foldl (fun(cs:Array Value) (p:Value×Nat)=>cs.setIfInBounds (off+p.2) p.1) cells).toList=splice cells.toList (off+s) vs
 | [],s,cells=>by simp[splice_nil]
 |v::vs,s,cells=>by
  simp only[List.zipIdx_cons,List.foldl_cons]
  rw[foldl_set off vs (s+1),Array.toList_setIfInBounds,←Nat.add_assoc,splice_cons]
theorem fill_ok{β:Beta}{G:Sp→Nat→Nat}{w:World}{M:MSet}{place:Nat→Option (Nat×Nat)}: ∀(parts:List (Nat×Value)) (ps:List (Nat×List T)) (zs:List T) (zc:Array Value) (rs:List T),
  VList β G w M zs zc.toList→zs.all single=true→parts.length=ps.length→(∀(j i:Nat) (cv:Value) (off:Nat) (ts:List T),parts[j]? =some (i,cv)→ps[j]? =some (off,ts)→place i=some (off,ts.length)∧VList β G w M ts cv.cells.toList∧ts.all single=true)→
  fills zs ps=some rs→ ∃rc,Instr.fill place zc parts=some rc∧VList β G w M rs rc.toList∧rs.all single=true
 | [],ps,zs,zc,rs,hz,hs,hlen,hp,hf=>by
   cases ps with
   |nil=>simp[fills]at hf;subst hf;exact⟨zc,by simp[Instr.fill],hz,hs⟩
   |cons p ps=>simp at hlen
 |(i,cv)::parts,ps,zs,zc,rs,hz,hs,hlen,hp,hf=>by
  cases ps with
  |nil=>simp at hlen
  |cons p ps=>
   obtain⟨off,ts⟩:=p
   simp only[fills]at hf
   split at hf
   ·rename_i hle
    obtain⟨p1,p2,p3⟩:=hp 0 i cv off ts rfl rfl
    have hl1:=VList.length _ _ p2
    have hl2:=VList.length _ _ hz
    have hsz:cv.cells.size=ts.length:=by rw[hl1];simp
    have hzs:zc.size=zs.length:=by rw[hl2];simp
    have hc: ¬((cv.cells.size≠ts.length||off+cv.cells.size>zc.size)=true):=by
     rw[hsz,hzs];simp;omega
    have e:(cv.cells.zipIdx.foldl (fun(cs:Array Value) (p:Value×Nat)=>cs.setIfInBounds (off+p.2) p.1) zc).toList=splice zc.toList off cv.cells.toList:=by
     have:=foldl_set off cv.cells.toList 0 zc
     rw[←Array.foldl_toList,Array.toList_zipIdx];simpa using this
    obtain⟨rc,r1,r2,r3⟩:=fill_ok parts ps (splice zs off ts) (cv.cells.zipIdx.foldl (fun(cs:Array Value) (p:Value×Nat)=>cs.setIfInBounds (off+p.2) p.1) zc) rs
     (by rw[e];exact VList.splice hz p2) (splice_all hs p3) (by simpa using hlen) (fun j i cv off ts a b=>hp (j+1) i cv off ts (by simpa using a) (by simpa using b)) hf
    refine⟨rc, ?_,r2,r3⟩
    simp only[Instr.fill,p1]
    rw[if_neg hc]
    exact r1
   ·cases hf
section
variable{P:Program}{B:Base}{st:St}{a:Act}{w:World}{β:Beta}{M:MSet}{o:Oper}{v:T}{ups:List Up}
theorem placesOf_get{places:List (Nat×Nat)}: ∀{ps:List (Nat×Operand)} {r:List (Nat×Nat×Opd)},placesOf places ps=some r→ps.length=r.length∧ ∀(j i:Nat) (x:Operand) (off n:Nat) (y:Opd),ps[j]? =some (i,x)→r[j]? =some (off,n,y)→places[i]? =some (off,n)∧opd x=some y
 | [],r,h=>by simp[placesOf]at h;subst h;simp
 |(i0,x0)::ps,r,h=>by
  simp only[placesOf]at h
  split at h
  ·rename_i p y r' h1 h2 h3
   simp at h;subst h
   obtain⟨a1,a2⟩:=placesOf_get h3
   refine⟨by simp[a1],fun j i x off n y' b1 b2=> ?_⟩
   cases j with
   |zero=>simp at b1 b2;obtain⟨rfl,rfl⟩:=b1;obtain⟨rfl,rfl,rfl⟩:=b2;exact⟨h1,h2⟩
   |succ j=>exact a2 j i x off n y' (by simpa using b1) (by simpa using b2)
  ·cases h
theorem placesArr_get{sz:Nat}: ∀{ps:List (Nat×Operand)} {r:List (Nat×Nat×Opd)},placesArr sz ps=some r→ps.length=r.length∧ ∀(j i:Nat) (x:Operand) (off n:Nat) (y:Opd),ps[j]? =some (i,x)→r[j]? =some (off,n,y)→(off=i*sz∧n=sz)∧opd x=some y
 | [],r,h=>by simp[placesArr]at h;subst h;simp
 |(i0,x0)::ps,r,h=>by
  simp only[placesArr]at h
  split at h
  ·rename_i y r' h2 h3
   simp at h;subst h
   obtain⟨a1,a2⟩:=placesArr_get h3
   refine⟨by simp[a1],fun j i x off n y' b1 b2=> ?_⟩
   cases j with
   |zero=>simp at b1 b2;obtain⟨rfl,rfl⟩:=b1;obtain⟨rfl,rfl,rfl⟩:=b2;exact⟨⟨rfl,rfl⟩,h2⟩
   |succ j=>exact a2 j i x off n y' (by simpa using b1) (by simpa using b2)
  ·cases h
variable(hρ:RhoOk β st.gens w M st.rho a.eval)(h:HRel B st w β M)
include hρ h
theorem build_ok{d nx:Nat}{t:TypeId}{ps:Array (Nat×Operand)}{z:T}{r:List (Nat×Nat×Opd)}(ho:o.op= .build t ps)(hz:zeroT P t=some z)
  (hpl:(∃fs places,P.underlying t=some (.struct fs)∧fs.toList.mapM (fun f=>(P.info? f.type).map fun i=>(f.offset,i.size))=some places∧placesOf places ps.toList=some r)∨(∃n e sz,P.underlying t=some (.array n e)∧sizeT P e=some sz∧placesArr sz ps.toList=some r))
  (hzt:noTup z=true) (hq:(opQ d st.rho (.build (cellsOf z) r)).run st.get nx=some (.val v ups)):OpOk P B st a w β M o v ups:=by
 obtain⟨i,zv,z1,z2,z3⟩:=zeroT_ok hz
 have zrel:VRel β st.gens w M z zv:=PRel.toV _ _ _ _ (constT_rel z3)
 obtain⟨zc1,zc2⟩:=cells_V zrel hzt
 simp only[opQ]at hq
 split at hq
 ·rename_i hall
  cases hf:fills (cellsOf z) (r.map fun p=>(p.1,cellsOf (st.rho p.2.2)))with
  |none=>simp[hf,Ev.val,Q.run]at hq
  |some rs=>
   simp[hf,Ev.val,Q.run]at hq;obtain⟨rfl,rfl⟩:=hq
   have parts: ∃place:Nat→Option (Nat×Nat),(∀rc,Instr.fill place zv.cells (ps.toList.map fun p=>(p.1,a.eval p.2))=some rc→P.built t (ps.map fun(i,x)=>(i,a.eval x)).toList=some rc)∧ps.toList.length=r.length∧
     ∀(j i:Nat) (x:Operand) (off n:Nat) (y:Opd),ps.toList[j]? =some (i,x)→r[j]? =some (off,n,y)→place i=some (off,n)∧opd x=some y:=by
    rcases hpl with⟨fs,places,u1,u2,u3⟩|⟨n,e,sz,u1,u2,u3⟩
    ·obtain⟨g1,g2⟩:=placesOf_get u3
     refine⟨fun i=>places[i]?,fun rc hrc=> ?_,g1,g2⟩
     simp only[Program.built,z1,z2,u1,u2,Array.toList_map]
     have:(fun x:Nat=>places.toArray[x]?)=fun i=>places[i]? :=by funext i;simp
     rw[this];exact hrc
    ·obtain⟨g1,g2⟩:=placesArr_get u3
     have: ∃ie,P.info? e=some ie∧ie.size=sz:=by
      unfold sizeT at u2
      cases he:P.info? e with
      |none=>simp[he]at u2
      |some ie=>simp[he]at u2;exact⟨ie,rfl,u2⟩
     obtain⟨ie,v1,v2⟩:=this
     refine⟨fun i=>some (i*ie.size,ie.size),fun rc hrc=> ?_,g1,fun j i x off n y b1 b2=> ?_⟩
     ·simp only[Program.built,z1,z2,u1,v1,Array.toList_map];exact hrc
     ·obtain⟨⟨rfl,rfl⟩,c⟩:=g2 j i x off n y b1 b2
      exact⟨by rw[v2],c⟩
   obtain⟨place,q1,q2,q3⟩:=parts
   obtain⟨rc,r1,r2,r3⟩:=fill_ok (place:=place) (ps.toList.map fun p=>(p.1,a.eval p.2)) _ (cellsOf z) zv.cells rs zc1 zc2 (by simp[q2]) (by
    intro j i cv off ts b1 b2
    rw[List.getElem?_map,Option.map_eq_some_iff]at b1 b2
    obtain⟨⟨i',x⟩,c1,c2⟩:=b1
    obtain⟨⟨off',n,y⟩,c3,c4⟩:=b2
    simp at c2 c4
    obtain⟨rfl,rfl⟩:=c2
    obtain⟨rfl,rfl⟩:=c4
    obtain⟨e1,e2⟩:=q3 j i' x off' n y c1 c3
    have hv:=hρ x y e2
    have hall':=(List.all_eq_true.1 hall) _ (List.mem_of_getElem? c3)
    simp at hall'
    obtain⟨k1,k2⟩:=cells_V hv hall'.2
    exact⟨by rw[e1,hall'.1],k1,k2⟩) hf
   refine same_ok h (cv:= .agg rc) ?_ (by simp only[VRel];exact⟨rc,rfl,r2,r3⟩)
   have:=run_build (P:=P) w t (ps.map fun(i,x)=>(i,a.eval x)) rc (q1 rc r1)
   simp[execOp,ho,this]
 ·simp[Q.run]at hq
end
end Go.Ev
namespace Go.Ev
open Go
theorem newOb_run{st:St}{d:Nat}{sh:Bool}{ob:Ob}{f:Sp→Nat→Nat→T}{v:T}{ups:List Up}(h:(newOb d sh ob f).run st.get st.sh.length=some (.val v ups)):
  ∃sp k g,v=f sp k g∧ups= [(sp,k,⟨g,ob⟩)]∧st.gens sp k<g∧(sp= .S→sh=true):=by
 unfold newOb at h
 split at h
 ·simp[Q.run]at h
  obtain⟨rfl,rfl⟩:=h
  refine⟨.S,st.sh.length,1,rfl,rfl, ?_,fun _=>by assumption⟩
  show(st.get .S st.sh.length).g<1
  simp[St.get,getE_none (Nat.le_refl _),noEnt]
 ·simp[Q.run]at h
  obtain⟨rfl,rfl⟩:=h
  exact⟨.L,d,_,rfl,rfl,Nat.lt_succ_self _,fun e=>by cases e⟩
theorem repl_eq{α:Type}(z:List α): ∀n,(repl z n).length=n*z.length
 |0=>by simp[repl]
 |n+1=>by simp[repl,repl_eq z n,Nat.add_mul];omega
theorem repl_get{α:Type}(z:List α)(hz:z≠ []): ∀(n j:Nat),j<n*z.length→(repl z n)[j]? =z[j%z.length]?
 |0,j,h=>by simp at h
 |n+1,j,h=>by
  have hpos:0<z.length:=List.length_pos_iff.2 hz
  simp only[repl]
  by_cases hj:j<z.length
  ·rw[List.getElem?_append_left hj,Nat.mod_eq_of_lt hj]
  ·rw[List.getElem?_append_right (by omega),repl_get z hz n (j-z.length) (by rw[Nat.add_mul]at h;omega)]
   rw[←Nat.mod_eq_sub_mod (by omega)]
theorem range_repl(z:Array Value)(n:Nat)(hz:z.size≠0):((Array.range (n*z.size)).map (fun i=>z[i%z.size]!)).toList=repl z.toList n:=by
 apply List.ext_getElem?
 intro j
 have hz':z.toList≠ []:=by intro e;apply hz;have:=congrArg List.length e;simpa using this
 by_cases hj:j<n*z.size
 ·rw[repl_get z.toList hz' n j (by simpa using hj)]
  have hm:j%z.size<z.size:=Nat.mod_lt _ (by omega)
  simp[hj,hm]
 ·have h1:(repl z.toList n)[j]? =none:=by rw[List.getElem?_eq_none];rw[repl_eq];simp;omega
  rw[h1];simp;omega
theorem PList.repl{w:World}{M:MSet}{z:List T}{zv:List Value}(h:PList w M z zv): ∀n,PList w M (Ev.repl z n) (Ev.repl zv n)
 |0=>by simp[Ev.repl,PList]
 |n+1=>by simp only[Ev.repl];exact PList.append h (PList.repl h n)
theorem repl_all{z:List T}(h:z.all single=true): ∀n,(repl z n).all single=true
 |0=>by simp[repl]
 |n+1=>by simp only[repl,List.all_append,Bool.and_eq_true];exact⟨h,repl_all h n⟩
theorem makeSlice_run{P:Program}{w:World}{t e:TypeId}{i:TypeInfo}{zv:Value}{k:IntKind}{m:Int}(ht:P.underlying t=some (.slice e))(hi:P.info? e=some i)(hz:i.zero=some zv)(hm:0≤m)(hwrap:IntKind.i64.wrap m=m)
  (hb:(i.bytes:Int)*m≤281474976710656) (hroom:m.toNat*i.bytes≤140737488355328):
  (Instr.makeSlice t (.int k m) (.int k m)).run P w= .ok (.slice (some ⟨w.heap.size,0,none⟩) m.toNat m.toNat) (w.alloc (.cells ((Array.range (m.toNat*i.size)).map (fun j=>zv.cells[j%zv.cells.size]!)) e)):=by
 have h1: ¬(m<0):=by omega
 have h2: ¬(281474976710656<(i.bytes:Int)*m):=by omega
 have h3: ¬(140737488355328<m.toNat*i.bytes):=by omega
 have h4: ¬(m.toNat*i.bytes>roomBytes):=by unfold roomBytes;omega
 simp only[Instr.makeSlice,Sem.run_bind,run_underlying ht,Result.andThen_ok,asInt,asIntOf,Sem.run_pure,typeInfo,run_program,hi,hwrap]
 simp only[h1,decide_false,Bool.false_or,Int.lt_irrefl,gt_iff_lt,Bool.or_false]
 rw[if_neg (by simp;omega)]
 simp only[Sem.run_bind,askRoom,if_neg h4,Sem.run_pure,Result.andThen_ok,sizeOf,typeInfo,run_program,hi]
 by_cases hn:m.toNat*i.size=0
 ·rw[if_pos hn,hn]
  have:Array.range 0= #[]:=rfl
  simp[newRow,this]
 ·rw[if_neg hn]
  simp[newRow,zeroValue,typeInfo,hi,hz]
section
variable{P:Program}{B:Base}{st:St}{a:Act}{w:World}{β:Beta}{M:MSet}{o:Oper}{v:T}{ups:List Up}
theorem new_cells(h:HRel B st w β M)(el:TypeId)(c:Array Value)(cs:List T)(bx:Bool)(sp:Sp)(k g:Nat)(hg:st.gens sp k<g)
  (hl:OList sp bx β st.gens w M cs (c.toList.take cs.length)) (hs:cs.all single=true) (hle:cs.length≤c.size):
  HRel B (st.up (sp,k,⟨g,.cells cs 0 bx⟩)) (w.alloc (.cells c el)) (updB β sp k g ⟨w.heap.size,0,c.size⟩) (fun b x=>M b x∨b=w.heap.size)∧
  Tr st w β M (st.up (sp,k,⟨g,.cells cs 0 bx⟩)) (w.alloc (.cells c el)) (updB β sp k g ⟨w.heap.size,0,c.size⟩) (fun b x=>M b x∨b=w.heap.size):=by
 have hb: ∀sp' k' g',g'≤st.gens sp' k'→updB β sp k g ⟨w.heap.size,0,c.size⟩ sp' k' g'=β sp' k' g':=by
  intro sp' k' g' hle'
  refine updB_ne _ _ _ _ _ ?_
  rintro⟨rfl,rfl,rfl⟩
  omega
 have hG: ∀sp' k',st.gens sp' k'≤(st.up (sp,k,⟨g,.cells cs 0 bx⟩)).gens sp' k':=by
  intro sp' k'
  rw[gens_up]
  split
  ·rename_i e;obtain⟨rfl,rfl⟩:=e;exact Nat.le_of_lt hg
  ·exact Nat.le_refl _
 refine H_new h sp k g hg (.cells c el) c.size (.cells cs 0 bx) ?_
 unfold ORel
 simp only[updB_same]
 refine⟨c,el,(0,0),by rw[heap_alloc,if_pos rfl],by omega,hle,rfl, ?_,fun j _ _=>Or.inr (by trivial),hs,Nat.zero_le _⟩
 simp only[List.drop_zero]
 exact OList.mono (keeps_alloc' w M _) hb hG hl
theorem new_ok{o':Obj}{sp:Sp}{k g:Nat}{ob:Ob}{ext:Nat}{cv:Value}{v:T}(hr:(execOp a.eval o).run P w= .ok (.value cv) (w.alloc o'))
  (hn:HRel B (st.up (sp,k,⟨g,ob⟩)) (w.alloc o') (updB β sp k g ⟨w.heap.size,0,ext⟩) (fun b x=>M b x∨b=w.heap.size)∧
    Tr st w β M (st.up (sp,k,⟨g,ob⟩)) (w.alloc o') (updB β sp k g ⟨w.heap.size,0,ext⟩) (fun b x=>M b x∨b=w.heap.size))
  (hv:VRel (updB β sp k g ⟨w.heap.size,0,ext⟩) (st.up (sp,k,⟨g,ob⟩)).gens (w.alloc o') (fun b x=>M b x∨b=w.heap.size) v cv):OpOk P B st a w β M o v [(sp,k,⟨g,ob⟩)]:=
 ⟨_,cv,_,_,_,hr,.inl rfl,hn.1,hn.2,by show _≤(w.heap.push o').size;simp,hv⟩
theorem Tr.less{M':MSet}(hs: ∀b x,M' b x→M b x):Tr st w β M st w β M':=⟨keeps_less hs,fun _ _ _ _=>rfl,fun _ _=>Nat.le_refl _⟩
theorem OpOk.less{M':MSet}(hs: ∀b x,M' b x→M b x)(h:OpOk P B st a w β M' o v ups):OpOk P B st a w β M o v ups:=by
 obtain⟨nx,cv,w',β',M2,h1,h2,h3,h4,h5,h6⟩:=h
 exact⟨nx,cv,w',β',M2,h1,h2,h3,(Tr.less hs).trans h4 (Nat.le_refl _),h5,h6⟩
theorem take_all{l:List Value}{n:Nat}(h:n=l.length):l.take n=l:=by subst h;simp
variable(hρ:RhoOk β st.gens w M st.rho a.eval)(h:HRel B st w β M)
include h
theorem alloc_ok{d:Nat}{sh:Bool}{t:TypeId}{z:T}(ho:o.op= .alloc t)(hz:zeroT P t=some z)(hzt:noTup z=true)
  (hq:(opQ d st.rho (.alloc (cellsOf z) sh)).run st.get st.sh.length=some (.val v ups)):OpOk P B st a w β M o v ups:=by
 simp only[opQ]at hq
 obtain⟨sp,k,g,rfl,rfl,hg,hgs⟩:=newOb_run hq
 obtain⟨zv,z1,z2⟩:=zeroT_run hz w
 obtain⟨c1,c2⟩:=cells_P (z2 w M) hzt
 have hlen:=PList.length _ _ c1
 refine new_ok (cv:= .pointer (some ⟨w.heap.size,0,none⟩)) ?_ (new_cells h t zv.cells (cellsOf z) true sp k g hg (by rw[take_all hlen];exact OList.ofP c1) c2 (by rw[hlen];simp)) ?_
 ·simp[execOp,ho,Instr.alloc,z1,newVar,newRow]
 ·simp[VRel,updB_same,gens_up]
include hρ
theorem box_ok{d:Nat}{sh:Bool}{t:TypeId}{x:Operand}{x':Opd}(ho:o.op= .box t x)(hx:opd x=some x')
  (hq:(opQ d st.rho (.box x' sh)).run st.get st.sh.length=some (.val v ups)):OpOk P B st a w β M o v ups:=by
 have vx:=hρ x x' hx
 simp only[opQ]at hq
 split at hq
 ·simp[Q.run]at hq
 ·rename_i hnt
  simp at hnt
  have fin: ∀(M':MSet) (t':T),HRel B st w β M'→noTup t'=true→ ∀sp k g,st.gens sp k<g→(match sp with| .L=>VRel β st.gens w M' t' (a.eval x)| .S=>XRel true β st.gens w M' t' (a.eval x))→OpOk P B st a w β M' o (.ptr sp k g 0) [(sp,k,⟨g,.cells (cellsOf t') 0 true⟩)]:=by
   intro M' t' h' hnt sp k g hg ht
   have htV:VRel β st.gens w M' t' (a.eval x):=by
    cases sp
    ·exact ht
    ·exact XRel.toV ht
   obtain⟨c1,c2⟩:=cells_V htV hnt
   have hlen:=VList.length _ _ c1
   refine new_ok (cv:= .pointer (some ⟨w.heap.size,0,none⟩)) ?_ (new_cells h' t (a.eval x).cells (cellsOf t') true sp k g hg (by
    rw[take_all hlen]
    cases sp
    ·exact c1
    ·exact fun β' G' p q=>(cells_V (ht β' G' p q) hnt).1) c2 (by rw[hlen];simp)) ?_
   ·simp[execOp,ho,Instr.box,newVar,newRow]
   ·simp[VRel,updB_same,gens_up]
  split at hq
  ·simp only[Q.run_bind]at hq
   cases hz:(fz true fzFuel (st.rho x')).run st.get st.sh.length with
   |none=>simp[hz]at hq
   |some p=>
    obtain⟨t',us⟩:=p
    simp only[hz,Option.bind_some]at hq
    split at hq
    ·rename_i he
     simp at he
     obtain⟨rfl,he2⟩:=he
     obtain⟨sp,k,g,rfl,rfl,hg,hgs⟩:=newOb_run hq
     obtain⟨M',q1,q2,q3,q4,q5⟩:=fz_ok true st fzFuel (st.rho x') B st w β M _ t' [] _ (Fz.refl st) h vx hz
     exact OpOk.less q3 (fin M' t' q1 he2 sp k g hg (by cases sp;exact q4.toV;exact q4))
    ·simp[Q.run]at hq
  ·obtain⟨sp,k,g,rfl,rfl,hg,hgs⟩:=newOb_run hq
   exact fin M _ h hnt sp k g hg (by cases sp;exact vx;(have:=hgs rfl;simp_all))
omit hρ in
theorem mkmap_ok{d:Nat}{sh:Bool}{t:TypeId}(ho:o.op= .makeMap t none)(hq:(opQ d st.rho (.mkmap sh)).run st.get st.sh.length=some (.val v ups)):OpOk P B st a w β M o v ups:=by
 simp only[opQ]at hq
 obtain⟨sp,k,g,rfl,rfl,hg,hgs⟩:=newOb_run hq
 refine new_ok (ext:=0) (cv:= .map (some w.heap.size)) (o':= .map #[] 0) ?_ (H_new h sp k g hg (.map #[] 0) 0 (.map [] [] false) ?_) ?_
 ·simp[execOp,ho,Instr.makeMap]
 ·unfold ORel
  simp only[updB_same]
  exact⟨#[],0,by rw[heap_alloc,if_pos rfl],MapKept.stamped_empty 0,by simp[PList],by simp[PList],fun _ _=>Or.inr (by trivial)⟩
 ·simp[VRel,updB_same,gens_up]
theorem mksl_ok{d:Nat}{sh:Bool}{t e:TypeId}{l c:Operand}{l':Opd}{i:TypeInfo}{z:T}(ho:o.op= .makeSlice t l c)(ht:P.underlying t=some (.slice e))(hi:P.info? e=some i)(hz:zeroT P e=some z)(hl:opd l=some l')(hsame:sameOpd l c=true)
  (hzt:noTup z=true) (hsz:i.size=(cellsOf z).length) (h0:i.size≠0)
  (hq:(opQ d st.rho (.mksl (cellsOf z) i.bytes l' sh)).run st.get st.sh.length=some (.val v ups)):OpOk P B st a w β M o v ups:=by
 have vl:=hρ l l' hl
 have ec:a.eval c=a.eval l:=by
  unfold sameOpd at hsame
  split at hsame
  ·simp at hsame;subst hsame;rfl
  ·simp at hsame;subst hsame;rfl
  ·cases hsame
 simp only[opQ]at hq
 split at hq
 ·rename_i n en
  obtain⟨k0,m,em,hm,rfl⟩:=asNat_int en
  rw[em]at vl
  have el:=vl.int
  split at hq
  ·rename_i hroom
   simp at hroom
   obtain⟨hr1,hr2⟩:=hroom
   obtain⟨sp,k,g,rfl,rfl,hg,hgs⟩:=newOb_run hq
   obtain⟨i',zv,z1,z2,z3⟩:=zeroT_ok hz
   rw[hi]at z1;simp at z1;subst z1
   obtain⟨c1,c2⟩:=cells_P (w:=w) (M:=M) (constT_rel z3) hzt
   have hlen:=PList.length _ _ c1
   have hzs:zv.cells.size=i.size:=by rw[hsz,hlen];simp
   have hrng:=range_repl zv.cells m.toNat (by omega)
   have hroomy:roomy=1099511627776:=rfl
   rw[hroomy]at hr1 hr2
   have hwrap:IntKind.i64.wrap m=m:=by
    simp[IntKind.wrap,IntKind.bits,IntKind.signed];omega
   have hsz2:((Array.range (m.toNat*i.size)).map (fun j=>zv.cells[j%zv.cells.size]!)).size=m.toNat*i.size:=by simp
   refine new_ok (cv:= .slice (some ⟨w.heap.size,0,none⟩) m.toNat m.toNat) ?_ (new_cells h e ((Array.range (m.toNat*i.size)).map (fun j=>zv.cells[j%zv.cells.size]!)) (repl (cellsOf z) m.toNat) false sp k g hg ?_ (repl_all c2 _) ?_) ?_
   ·have hmul:(i.bytes:Int)*m=((m.toNat*i.bytes:Nat):Int):=by rw[Int.natCast_mul,Int.toNat_of_nonneg hm,Int.mul_comm]
    have:=makeSlice_run (P:=P) (w:=w) (k:=k0) ht hi z2 hm hwrap (by rw[hmul];omega) (by omega)
    simp[execOp,ho,ec,el,this]
   ·show PList w M _ _
    rw[repl_eq,←hsz,←hzs,hrng]
    have:=PList.repl c1 m.toNat
    rw[take_all]
    ·exact this
    ·rw[repl_eq];simp
   ·rw[hsz2,repl_eq,hsz];exact Nat.le_refl _
   ·simp only[VRel,updB_same,gens_up]
    refine⟨by simp,m.toNat,rfl,Nat.le_refl _, ?_⟩
    rw[hsz2,hsz];simp
  ·simp[Q.run]at hq
 ·simp[Q.run]at hq
end
end Go.Ev
namespace Go.Ev
open Go
theorem get_ups_miss(st:St): ∀(us:List Up) (sp:Sp) (k:Nat),hits us sp k=false→(st.ups us).get sp k=st.get sp k:=by
 intro us
 induction us generalizing st with
 |nil=>intro sp k _;rfl
 |cons u us ih=>
  intro sp k hh
  obtain⟨sp',k',e⟩:=u
  simp only[hits,List.any_cons,Bool.or_eq_false_iff]at hh
  simp only[St.ups]
  rw[ih (st.up (sp',k',e)) sp k hh.2,get_up,if_neg]
  rintro⟨rfl,rfl⟩
  simp at hh
theorem fr_up(st:St)(u:Up):(st.up u).fr=st.fr:=by obtain⟨sp,k,e⟩:=u;cases sp <;> rfl
theorem fr_ups(st:St): ∀(us:List Up),(st.ups us).fr=st.fr:=by
 intro us
 induction us generalizing st with
 |nil=>rfl
 |cons u us ih=>simp only[St.ups];rw[ih,fr_up]
theorem idxOpds_get: ∀{ps:List (Nat×Operand)} {r:List (Nat×Opd)},idxOpds ps=some r→ps.length=r.length∧ ∀(j i:Nat) (x:Operand) (i':Nat) (y:Opd),ps[j]? =some (i,x)→r[j]? =some (i',y)→i'=i∧opd x=some y
 | [],r,h=>by simp[idxOpds]at h;subst h;simp
 |(i0,x0)::ps,r,h=>by
  simp only[idxOpds]at h
  split at h
  ·rename_i y r' h2 h3
   simp at h;subst h
   obtain⟨a1,a2⟩:=idxOpds_get h3
   refine⟨by simp[a1],fun j i x i' y' b1 b2=> ?_⟩
   cases j with
   |zero=>simp at b1 b2;obtain⟨rfl,rfl⟩:=b1;obtain⟨rfl,rfl⟩:=b2;exact⟨rfl,h2⟩
   |succ j=>exact a2 j i x i' y' (by simpa using b1) (by simpa using b2)
  ·cases h
theorem fillP_ok{w:World}{M:MSet}{place:Nat→Option (Nat×Nat)}: ∀(parts:List (Nat×Value)) (ps:List (Nat×List T)) (zs:List T) (zc:Array Value) (rs:List T),
  PList w M zs zc.toList→zs.all single=true→parts.length=ps.length→(∀(j i:Nat) (cv:Value) (off:Nat) (ts:List T),parts[j]? =some (i,cv)→ps[j]? =some (off,ts)→place i=some (off,ts.length)∧PList w M ts cv.cells.toList∧ts.all single=true)→
  fills zs ps=some rs→ ∃rc,Instr.fill place zc parts=some rc∧PList w M rs rc.toList∧rs.all single=true∧rs.length=zs.length
 | [],ps,zs,zc,rs,hz,hs,hlen,hp,hf=>by
   cases ps with
   |nil=>simp[fills]at hf;subst hf;exact⟨zc,by simp[Instr.fill],hz,hs,rfl⟩
   |cons p ps=>simp at hlen
 |(i,cv)::parts,ps,zs,zc,rs,hz,hs,hlen,hp,hf=>by
  cases ps with
  |nil=>simp at hlen
  |cons p ps=>
   obtain⟨off,ts⟩:=p
   simp only[fills]at hf
   split at hf
   ·rename_i hle
    obtain⟨p1,p2,p3⟩:=hp 0 i cv off ts rfl rfl
    have hl1:=PList.length _ _ p2
    have hl2:=PList.length _ _ hz
    have hsz:cv.cells.size=ts.length:=by rw[hl1];simp
    have hzs:zc.size=zs.length:=by rw[hl2];simp
    have hc: ¬((cv.cells.size≠ts.length||off+cv.cells.size>zc.size)=true):=by
     rw[hsz,hzs];simp;omega
    have e:(cv.cells.zipIdx.foldl (fun(cs:Array Value) (p:Value×Nat)=>cs.setIfInBounds (off+p.2) p.1) zc).toList=splice zc.toList off cv.cells.toList:=by
     have:=foldl_set off cv.cells.toList 0 zc
     rw[←Array.foldl_toList,Array.toList_zipIdx];simpa using this
    obtain⟨rc,r1,r2,r3,r4⟩:=fillP_ok parts ps (splice zs off ts) (cv.cells.zipIdx.foldl (fun(cs:Array Value) (p:Value×Nat)=>cs.setIfInBounds (off+p.2) p.1) zc) rs
     (by rw[e];exact PList.splice hz p2) (splice_all hs p3) (by simpa using hlen) (fun j i cv off ts a b=>hp (j+1) i cv off ts (by simpa using a) (by simpa using b)) hf
    refine⟨rc, ?_,r2,r3,by rw[r4,splice_length]⟩
    simp only[Instr.fill,p1]
    rw[if_neg hc]
    exact r1
   ·cases hf
theorem buildSlice_run{P:Program}{w:World}{t e:TypeId}{len n:Nat}{i:TypeInfo}{zv:Value}{parts:Array (Nat×Value)}{rc:Array Value}(ht:P.underlying t=some (.slice e))(hi:P.info? e=some i)(hn:i.size=n)(hz:i.zero=some zv)(hle:len*n≤16777216)
  (hfill:Instr.fill (fun j=>some (j*n,n)) ((Array.range (len*n)).map (fun j=>zv.cells[j%zv.cells.size]!)) parts.toList=some rc):
  (Instr.buildSlice t len parts).run P w= .ok (.slice (some ⟨w.heap.size,0,none⟩) len len) (w.alloc (.cells rc e)):=by
 have hle': ¬(len*n>2 ^ 24):=by omega
 have hso:(sizeOf e).run P w= .ok n w:=by simp[sizeOf,typeInfo,hi,hn]
 have hzero:(zeroValue e).run P w= .ok zv w:=by simp[zeroValue,typeInfo,hi,hz]
 unfold Instr.buildSlice
 by_cases hln:len*n=0
 ·have e0: ∀f:Nat→Value,(Array.range (len*n)).map f= #[]:=by
   intro f;rw[hln];have h00:Array.range 0= #[]:=rfl
   rw[h00];simp
  rw[e0]at hfill
  simp only[Sem.run_bind,run_underlying ht,Result.andThen_ok,hso,if_neg hle',if_pos hln,Sem.run_pure,e0,hfill]
  simp[newRow]
 ·simp only[Sem.run_bind,run_underlying ht,Result.andThen_ok,hso,if_neg hle',if_neg hln,Sem.run_pure,hzero,hfill]
  simp[newRow]
section
variable{P:Program}{B:Base}{st:St}{a:Act}{w:World}{β:Beta}{M:MSet}{o:Oper}{v:T}{ups:List Up}
variable(hρ:RhoOk β st.gens w M st.rho a.eval)(h:HRel B st w β M)
theorem Tr.fz{st':St}{M':MSet}(hf:Fz st st')(hs: ∀b x,M' b x→M b x):Tr st w β M st' w β M':=
 ⟨keeps_less hs,fun _ _ _ _=>rfl,fun sp k=>by rw[hf.gens];exact Nat.le_refl _⟩
include hρ h
theorem bsl_ok{d nx:Nat}{t e:TypeId}{len:Nat}{ps:Array (Nat×Operand)}{r:List (Nat×Opd)}{z:T}{n:Nat}(ho:o.op= .buildSlice t len ps)(ht:P.underlying t=some (.slice e))(hz:zeroT P e=some z)(hn:sizeT P e=some n)(hr:idxOpds ps.toList=some r)
  (hzt:noTup z=true) (hsz:n=(cellsOf z).length) (h0:n≠0) (hbig:len*n≤16777216)
  (hq:(opQ d st.rho (.bsl (cellsOf z) len r)).run st.get nx=some (.val v ups)):OpOk P B st a w β M o v ups:=by
 simp only[opQ,Q.run_bind]at hq
 cases hm:(mapQ (Ev.fz false fzFuel) (r.map fun p=>st.rho p.2)).run st.get nx with
 |none=>simp[hm]at hq
 |some p=>
  obtain⟨ts,us⟩:=p
  simp only[hm,Option.bind_some]at hq
  split at hq
  ·rename_i hall
   split at hq
   ·rename_i cs hf
    simp[Q.run]at hq;obtain⟨rfl,rfl⟩:=hq
    obtain⟨g1,g2⟩:=idxOpds_get hr
    have hvl:VList β st.gens w M (r.map fun p=>st.rho p.2) (ps.toList.map fun p=>a.eval p.2):=by
     have gen: ∀(qs:List (Nat×Operand)) (rs:List (Nat×Opd)),qs.length=rs.length→(∀(j i:Nat) (x:Operand) (i':Nat) (y:Opd),qs[j]? =some (i,x)→rs[j]? =some (i',y)→i'=i∧opd x=some y)→VList β st.gens w M (rs.map fun p=>st.rho p.2) (qs.map fun p=>a.eval p.2):=by
      intro qs
      induction qs with
      |nil=>intro rs hl _;cases rs with|nil=>simp[VList]|cons _ _=>simp at hl
      |cons q qs ih=>
       intro rs hl hg
       cases rs with
       |nil=>simp at hl
       |cons rr rs=>
        simp only[List.map_cons,VList]
        exact⟨_,_,rfl,hρ _ _ (hg 0 q.1 q.2 rr.1 rr.2 rfl rfl).2,ih rs (by simpa using hl) (fun j i x i' y a b=>hg (j+1) i x i' y (by simpa using a) (by simpa using b))⟩
     exact gen _ _ g1 g2
    obtain⟨M',q1,q2,q3,q4,q5,q6⟩:=mapQ_ok (fun t=>fz_ok false st fzFuel t) _ B st w β M _ ts us nx (Fz.refl st) h hvl hm
    have q4':PList w M' ts (ps.toList.map fun p=>a.eval p.2):=q4
    obtain⟨i,zv,z1,z2,z3⟩:=zeroT_ok hz
    obtain⟨c1,c2⟩:=cells_P (w:=w) (M:=M') (constT_rel z3) hzt
    have hzl:=PList.length _ _ c1
    have hsize:i.size=n:=by unfold sizeT at hn;rw[z1]at hn;simpa using hn
    have hzs:zv.cells.size=n:=by rw[hsz,hzl];simp
    have hrng:=range_repl zv.cells len (by omega)
    rw[hzs]at hrng
    have hzrow:PList w M' (repl (cellsOf z) len) ((Array.range (len*n)).map (fun j=>zv.cells[j%n]!)).toList:=by
     rw[hrng];exact PList.repl c1 len
    obtain⟨rc,r1,r2,r3,r4⟩:=fillP_ok (place:=fun i=>some (i*n,n)) (ps.toList.map fun p=>(p.1,a.eval p.2)) _ (repl (cellsOf z) len) _ cs hzrow (repl_all c2 len) (by simp[g1,q6]) (by
     intro j i cv off tt b1 b2
     rw[List.getElem?_map,Option.map_eq_some_iff]at b1
     obtain⟨⟨i1,x⟩,c3,c4⟩:=b1
     simp at c4;obtain⟨rfl,rfl⟩:=c4
     rw[List.getElem?_zip_eq_some]at b2
     obtain⟨b3,b4⟩:=b2
     rw[List.getElem?_map,Option.map_eq_some_iff]at b3 b4
     obtain⟨⟨i2,y⟩,d1,d2⟩:=b3
     obtain⟨tv,d3,d4⟩:=b4
     obtain⟨e1,e2⟩:=g2 j i1 x i2 y c3 d1
     subst e1
     simp at d2
     obtain⟨cv',f1,f2⟩:=q4'.get d3
     rw[List.getElem?_map,c3]at f1
     simp at f1;subst f1
     have hal:=(List.all_eq_true.1 hall) _ (List.mem_of_getElem? d3)
     simp at hal
     obtain⟨k1,k2⟩:=cells_P f2 hal.2
     subst d4
     exact⟨by rw[hal.1,←hsz,←d2,hsz],k1,k2⟩) hf
    obtain⟨p1,p2⟩:=H_push q1 (.cells rc e)
    refine⟨_,.slice (some ⟨w.heap.size,0,none⟩) len len,w.alloc (.cells rc e),β,M', ?_,.inl rfl,p1,(Tr.fz q2 q3).trans p2 (Nat.le_refl _),by show _≤(w.heap.push _).size;simp, ?_⟩
    ·have:=buildSlice_run (P:=P) (w:=w) (t:=t) (e:=e) (len:=len) (n:=n) (parts:=ps.map fun(i,x)=>(i,a.eval x)) (rc:=rc) ht z1 hsize z2 hbig (by rw[hzs];simpa using r1)
     simp[execOp,ho,this]
    ·simp only[VRel,PRel]
     refine⟨w.heap.size,0,len,none,rfl,Nat.le_refl _,fun _=>rfl,.inl rfl, ?_⟩
     have hrl:=PList.length _ _ r2
     refine PCells.of (c:=rc) (el:=e) (fz:=(0,0)) (by rw[heap_alloc,if_pos rfl]) _ _ ?_ ?_ r3
     ·rw[List.drop_zero,take_all hrl];exact PList.mono p2.keep _ _ r2
     ·intro x _ _ hmx
      exact Nat.lt_irrefl _ (q1.mlt _ _ hmx)
   ·simp[Q.run]at hq
  ·simp[Q.run]at hq
end
end Go.Ev
namespace Go.Ev
open Go
theorem setRow_setBlock{w:World}{g:Nat}{old cs:Array Value}{t:TypeId}{fr:Nat×Nat}(hg:w.heap[g]? =some (.cells old t fr)):w.setRow g cs=setBlock w g (.cells cs t fr):=by
 unfold World.setRow setBlock
 congr 1
 apply Array.ext_getElem?
 intro i
 rw[Array.getElem?_modify,Array.getElem?_setIfInBounds]
 split
 ·rename_i e;subst e;rw[hg,if_pos (heap_lt hg)];rfl
 ·rfl
theorem VRel.one{β:Beta}{G:Sp→Nat→Nat}{w:World}{M:MSet}{t:T}{cv:Value}(h:VRel β G w M t cv)(hs:single t=true):cv.oneCell'=true:=by
 cases t <;> simp[single]at hs <;> simp only[VRel,PRel]at h
 all_goals first
  |(subst h;rfl)
  |(obtain⟨_,rfl,_⟩:=h;rfl)
  |(obtain⟨_,_,rfl,_⟩:=h;rfl)
  |(obtain⟨_,_,_,rfl,_⟩:=h;rfl)
  |(obtain⟨_,_,_,_,rfl,_⟩:=h;rfl)
  |(obtain⟨_,rfl⟩:=h;rfl)
theorem VList.one{β:Beta}{G:Sp→Nat→Nat}{w:World}{M:MSet}: ∀{ts:List T} {vs:List Value},VList β G w M ts vs→ts.all single=true→ ∀v∈vs,v.oneCell'=true
 | [],vs,h,_=>by simp only[VList]at h;subst h;simp
 |t::ts,vs,h,hs=>by
  simp only[VList]at h
  obtain⟨u,us,rfl,h1,h2⟩:=h
  simp only[List.all_cons,Bool.and_eq_true]at hs
  intro v hv
  simp at hv
  rcases hv with rfl|hv
  ·exact h1.one hs.1
  ·exact VList.one h2 hs.2 v hv
theorem seg_get(l vs:List Value)(k:Nat)(hk:k+vs.length≤l.length)(j:Nat):(l.take k++vs++l.drop (k+vs.length))[j]? =(splice l k vs)[j]? :=by
 rw[splice_get]
 by_cases h1:j<k
 ·rw[if_neg (by omega),List.append_assoc,List.getElem?_append_left (by simp;omega),List.getElem?_take,if_pos h1]
 ·by_cases h2:j<k+vs.length
  ·rw[if_pos (by omega),List.append_assoc,List.getElem?_append_right (by simp;omega),List.getElem?_append_left (by simp;omega)]
   congr 1;simp;omega
  ·rw[if_neg (by omega),List.getElem?_append_right (by simp;omega),List.getElem?_drop]
   congr 1;simp;omega
theorem seg_eq(l vs:List Value)(k:Nat)(hk:k+vs.length≤l.length):l.take k++vs++l.drop (k+vs.length)=splice l k vs:=by
 apply List.ext_getElem?;intro j;exact seg_get l vs k hk j
section
variable{P:Program}{B:Base}{st:St}{a:Act}{w:World}{β:Beta}{M:MSet}{o:Oper}{v:T}{ups:List Up}
theorem H_splice(h:HRel B st w β M){sp:Sp}{k g wm:Nat}{cs:List T}{bx:Bool}(he:st.get sp k=⟨g,.cells cs wm bx⟩)(g':Nat)(hg':g≤g'){c:Array Value}{el:TypeId}
  (hb:w.heap[(β sp k g).blk]? =some (.cells c el (0,0))) (off:Nat) (vs:List Value) (cs':List T) (hwm:wm≤off) (hext:off+vs.length≤(β sp k g).ext) (hle:cs.length≤cs'.length) (hle2:cs'.length≤(β sp k g).ext) (hs:cs'.all single=true)
  (hl:OList sp bx β st.gens w M cs' ((splice (c.toList.drop (β sp k g).off) off vs).take cs'.length)):
  HRel B (st.up (sp,k,⟨g',.cells cs' wm bx⟩)) (setBlock w (β sp k g).blk (.cells (splice c.toList ((β sp k g).off+off) vs).toArray el)) (updB β sp k g' (β sp k g)) M∧
  Tr st w β M (st.up (sp,k,⟨g',.cells cs' wm bx⟩)) (setBlock w (β sp k g).blk (.cells (splice c.toList ((β sp k g).off+off) vs).toArray el)) (updB β sp k g' (β sp k g)) M:=by
 have hg:st.gens sp k=g:=by show(st.get sp k).g=g;rw[he]
 have hlv:live (st.get sp k):=by rw[he];trivial
 have ho:=h.obj sp k
 rw[he]at ho
 unfold ORel at ho
 obtain⟨c0,el0,fz0,h1,h2,h3,h4,h5,h6,h7,h8⟩:=ho
 dsimp only at h1 h2 h3 h4 h6
 rw[hb]at h1
 simp at h1
 obtain⟨rfl,rfl,rfl⟩:=h1
 have hblt:=heap_lt hb
 have hk:Keeps w M (setBlock w (β sp k g).blk (.cells (splice c.toList ((β sp k g).off+off) vs).toArray el)) M:=by
  refine⟨fun b x u hu hm=> ?_,fun b es cl hu hm=> ?_,fun _ _ _ h=>h⟩
  ·by_cases hbb:b=(β sp k g).blk
   ·subst hbb
    unfold World.cell? at hu ⊢
    rw[hb]at hu
    rw[heap_setBlock,if_pos ⟨rfl,hblt⟩]
    simp at hu ⊢
    rw[splice_get,if_neg]
    ·simpa using hu
    ·rintro⟨q1,q2,q3⟩
     apply hm
     have:=h6 (x-(β sp k g).off) (by omega) (by omega)
     rwa [show(β sp k g).off+(x-(β sp k g).off)=x by omega]at this
   ·rw[cell_of_heap (w:=w) (by rw[heap_setBlock,if_neg (fun e=>hbb e.1)])];exact hu
  ·by_cases hbb:b=(β sp k g).blk
   ·subst hbb;rw[hb]at hu;simp at hu
   ·rw[heap_setBlock,if_neg (fun e=>hbb e.1)];exact hu
 have hbeta: ∀sp' k' g'',g''≤st.gens sp' k'→updB β sp k g' (β sp k g) sp' k' g''=β sp' k' g'':=by
  intro sp' k' g'' hle'
  by_cases e:sp'=sp∧k'=k∧g''=g'
  ·obtain⟨rfl,rfl,rfl⟩:=e
   rw[updB_same,←hg]
   congr 1;omega
  ·exact updB_ne _ _ _ _ _ e
 have hG: ∀sp' k',st.gens sp' k'≤(st.up (sp,k,⟨g',.cells cs' wm bx⟩)).gens sp' k':=by
  intro sp' k';rw[gens_up];split
  ·rename_i e;obtain⟨rfl,rfl⟩:=e;rw[hg];exact hg'
  ·exact Nat.le_refl _
 have key:=H_put (M':=M) h sp k g' (.cells cs' wm bx) hlv (by rw[hg];exact hg') (.cells (splice c.toList ((β sp k g).off+off) vs).toArray el) (fun _ _ hm=>hm) (fun _ _ _ hm=>hm) (by rw[hg];exact hk) (h.base hlv)
 rw[hg]at key
 refine key ?_
 unfold ORel
 simp only[updB_same]
 refine⟨_,el,(0,0),by rw[heap_setBlock,if_pos ⟨rfl,hblt⟩],by simp[splice_length];omega,hle2,rfl, ?_,h6,hs,by omega⟩
 have edrop:(splice c.toList ((β sp k g).off+off) vs).drop (β sp k g).off=splice (c.toList.drop (β sp k g).off) off vs:=by
  apply List.ext_getElem?
  intro j
  rw[List.getElem?_drop,splice_get,splice_get,List.getElem?_drop,List.length_drop]
  have e:(β sp k g).off+j-((β sp k g).off+off)=j-off:=by omega
  rw[e]
  by_cases hc:off≤j∧j<off+vs.length∧j<c.toList.length-(β sp k g).off
  ·rw[if_pos hc,if_pos (by omega)]
  ·rw[if_neg hc,if_neg (by omega)]
 simp only[List.toList_toArray]at edrop ⊢
 rw[edrop]
 exact OList.mono hk hbeta hG hl
variable(hρ:RhoOk β st.gens w M st.rho a.eval)(h:HRel B st w β M)
include h
omit h in
theorem store_fin{M':MSet}{us:List Up}{t:TypeId}{n:Nat}{x y:Operand}{sp:Sp}{k g off wm:Nat}{cs:List T}{bx:Bool}{ts:List T}(ho:o.op= .store t x y)(hn:sizeT P t=some n)(h':HRel B (st.ups us) w β M')(htr:Tr st w β M (st.ups us) w β M')
  (hx:a.eval x= .pointer (some ⟨(β sp k g).blk,(β sp k g).off+off,none⟩)) (he:(st.ups us).get sp k=⟨g,.cells cs wm bx⟩) (hwm:wm≤off) (hle:off+n≤cs.length) (hlen:ts.length=n) (hs:ts.all single=true)
  (hl:OList sp bx β (st.ups us).gens w M' ts (a.eval y).cells.toList):
  OpOk P B st a w β M o undefT (us++ [(sp,k,⟨g,.cells (splice cs off ts) wm bx⟩)]):=by
 have hob:=h'.obj sp k
 rw[he]at hob
 unfold ORel at hob
 obtain⟨c,el,fz,h1,h2,h3,h4,h5,h6,h7,h8⟩:=hob
 dsimp only at h1 h2 h3 h4 h5 h6
 subst h4
 have hlV:VList β (st.ups us).gens w M' ts (a.eval y).cells.toList:=hl.toV
 have hvl:=VList.length _ _ hlV
 have hone:=VList.one hlV hs
 have hst:=run_storeCells_at P (β sp k g).blk ((β sp k g).off+off) el (a.eval y).cells.toList 0 c w h1 (by simp at hvl ⊢; omega) hone
 rw[setRow_setBlock h1]at hst
 simp only[Nat.add_zero]at hst
 rw[seg_eq _ _ _ (by simp at hvl ⊢; omega)]at hst
 have key:=H_splice h' he g (Nat.le_refl _) h1 off (a.eval y).cells.toList (splice cs off ts) hwm (by omega) (by rw[splice_length];exact Nat.le_refl _) (by rw[splice_length];exact h3) (splice_all h7 hs) (by
  rw[splice_length]
  have etake:(splice (c.toList.drop (β sp k g).off) off (a.eval y).cells.toList).take cs.length=splice ((c.toList.drop (β sp k g).off).take cs.length) off (a.eval y).cells.toList:=by
   apply List.ext_getElem?
   intro j
   rw[List.getElem?_take,splice_get,splice_get,List.getElem?_take,List.length_take]
   by_cases hj:j<cs.length
   ·rw[if_pos hj,if_pos hj]
    by_cases hc:off≤j∧j<off+(a.eval y).cells.toList.length∧j<(c.toList.drop (β sp k g).off).length
    ·rw[if_pos hc,if_pos (by omega)]
    ·rw[if_neg hc,if_neg (by omega)]
   ·rw[if_neg hj,if_neg hj,if_neg (by omega)]
  rw[etake]
  cases bx
  ·exact PList.splice h5 hl
  ·cases sp
   ·exact VList.splice h5 hl
   ·exact fun β' G' p q=>VList.splice (h5 β' G' p q) (hl β' G' p q))
 rw[updB_self]at key
 refine⟨.skip,undef,setBlock w (β sp k g).blk (.cells (splice c.toList ((β sp k g).off+off) (a.eval y).cells.toList).toArray el),β,M', ?_,.inr ⟨rfl,rfl⟩, ?_, ?_,by rw[size_setBlock];exact Nat.le_refl _, ?_⟩
 ·have hcs:(a.eval y).cells.size=n:=by simp at hvl;omega
  simp[execOp,ho,hx,Instr.storeAt,Instr.sureAddr,storeVar,sizeT_run hn,hcs,hst]
 ·rw[ups_append];exact key.1
 ·rw[ups_append];exact htr.trans key.2 (Nat.le_refl _)
 ·simp[VRel,undefT,undef,VList]
include hρ
theorem st_ok{d:Nat}{t:TypeId}{n:Nat}{x y:Operand}{x' y':Opd}(ho:o.op= .store t x y)(hx:opd x=some x')(hy:opd y=some y')(hn:sizeT P t=some n)
  (hq:(opQ d st.rho (.st x' y' n)).run st.get st.sh.length=some (.val v ups)):OpOk P B st a w β M o v ups:=by
 have vx:=hρ x x' hx
 have vy:=hρ y y' hy
 simp only[opQ,stAt]at hq
 split at hq
 ·simp[Q.run]at hq
 ·rename_i hc
  simp at hc
  obtain⟨hlen,hnt⟩:=hc
  split at hq
  ·rename_i sp k g off ex
   rw[ex]at vx
   simp only[VRel]at vx
   simp only[Q.run]at hq
   split at hq
   ·rename_i hg
    generalize he:st.get sp k=e at*
    obtain⟨ge,ob⟩:=e
    dsimp only at hg;subst hg
    cases ob with
    |none=>simp[Q.run]at hq
    |map _ _ _=>simp[Q.run]at hq
    |cells cs wm bx=>
     dsimp only at hq
     split at hq
     ·rename_i hwm
      simp at hwm
      split at hq
      ·rename_i hbx
       simp at hbx
       obtain⟨rfl,rfl⟩:=hbx
       simp[Q.run]at hq;obtain⟨rfl,rfl⟩:=hq
       obtain⟨k1,k2⟩:=cells_V vy hnt
       exact store_fin (us:= []) ho hn h (Tr.refl _ _ _ _) vx.2 he hwm.1 hwm.2 hlen k2 k1
      ·rename_i hbx
       simp only[Q.run_bind]at hq
       cases hz:(fz (bx&&sp== .S) fzFuel (st.rho y')).run st.get st.sh.length with
       |none=>simp[hz]at hq
       |some p=>
        obtain⟨t',us⟩:=p
        simp only[hz,Option.bind_some]at hq
        split at hq
        ·simp[Q.run]at hq
        ·rename_i hh
         simp at hh
         obtain⟨⟨hh1,hh2⟩,hh3⟩:=hh
         simp[Q.run]at hq;obtain⟨rfl,rfl⟩:=hq
         obtain⟨M',q1,q2,q3,q4,q5⟩:=fz_ok _ st fzFuel (st.rho y') B st w β M _ t' us _ (Fz.refl st) h vy hz
         have he':(st.ups us).get sp k=⟨ge,.cells cs wm bx⟩:=by rw[get_ups_miss st us sp k hh1];exact he
         refine store_fin (us:=us) ho hn q1 (Tr.fz q2 q3) vx.2 he' hwm.1 hwm.2 hh3 ?_ ?_
         ·exact(cells_V q4.toV hh2).2
         ·cases bx with
          |false=>
           simp only[Bool.false_and]at q4
           exact(cells_P q4 hh2).1
          |true=>
           cases sp with
           |L=>simp at hbx
           |S=>
            simp only[Bool.true_and,beq_self_eq_true]at q4
            rw[q2.gens]
            exact fun β' G' p q=>(cells_V (q4 β' G' p q) hh2).1
     ·simp[Q.run]at hq
   ·simp[Q.run]at hq
  ·simp[Q.run]at hq
end
end Go.Ev
namespace Go.Ev
open Go
section
variable{P:Program}{B:Base}{st:St}{a:Act}{w:World}{β:Beta}{M:MSet}{o:Oper}{v:T}{ups:List Up}
variable(hρ:RhoOk β st.gens w M st.rho a.eval)(h:HRel B st w β M)
theorem lookup_run{t kt et:TypeId}{ek:EK}{m:Option Nat}{es:Array MapEntry}{clock:Nat}{ks vs:List T}{k z r:T}{kv zv:Value}{ok:Bool}(ht:P.underlying t=some (.map kt et))(hk:keyOf P kt=some ek)
  (hm:(m=none∧es= #[])∨ ∃blk,m=some blk∧w.heap[blk]? =some (.map es clock)) (hks:PList w M ks (es.toList.map (·.key))) (hvs:PList w M vs (es.toList.map (·.val))) (hkv:VRel β st.gens w M k kv) (hz:(zeroValue et).run P w= .ok zv w) (hzr:PRel w M z zv)
  (hq:lkIn ek ks vs k z ok=some r): ∃cv,(Instr.lookup t (.map m) kv ok).run P w= .ok cv w∧VRel β st.gens w M r cv:=by
 unfold lkIn at hq
 split at hq
 ·cases hq
 ·rename_i hik
  simp at hik
  have hck:(Instr.checkKey es.isEmpty 10000 kt kv).run P w= .ok () w:=checkKey_ok (P:=P) hk hkv hik 9998 es.isEmpty
  have run: ∀res,(Instr.findKey kt kv es.toList).run P w= .ok res w→(Instr.lookup t (.map m) kv ok).run P w=
    .ok (match res with|some (_,cv)=>if ok then .tuple #[cv,.bool true]else cv|none=>if ok then .tuple #[zv,.bool false]else zv) w:=by
   intro res hres
   unfold Instr.lookup
   rcases hm with⟨rfl,rfl⟩|⟨blk,rfl,hb⟩
   ·simp only[Sem.run_bind,run_underlying ht,Result.andThen_ok,Sem.run_pure,hck,hres]
    cases res with
    |none=>simp[hz]
    |some p=>simp
   ·have hgo:(getObj blk).run P w= .ok (.map es clock) w:=by simp[getObj,Sem.run,hb]
    simp only[Sem.run_bind,run_underlying ht,Result.andThen_ok,Sem.run_pure,hgo,hck,hres]
    cases res with
    |none=>simp[hz]
    |some p=>simp
  split at hq
  ·rename_i i hf
   obtain⟨res,r1,r2⟩:=findKey_ok (P:=P) hk hkv es.toList ks _ hks hf
   obtain⟨e,e1,e2⟩:=r2
   simp only[Option.map_eq_some_iff]at hq
   obtain⟨v',hv',rfl⟩:=hq
   obtain⟨cv,c1,c2⟩:=hvs.get hv'
   rw[List.getElem?_map,e1]at c1
   simp at c1;subst c1
   refine⟨_,run res r1, ?_⟩
   subst e2
   cases ok
   ·exact PRel.toV _ _ _ _ c2
   ·simp only[if_true,VRel,VList]
    exact⟨_,rfl,_,_,rfl,PRel.toV _ _ _ _ c2,_,_,rfl,rfl,rfl⟩
  ·rename_i hf
   simp at hq;subst hq
   obtain⟨res,r1,r2⟩:=findKey_ok (P:=P) hk hkv es.toList ks _ hks hf
   refine⟨_,run res r1, ?_⟩
   have:res=none:=r2
   subst this
   cases ok
   ·exact PRel.toV _ _ _ _ hzr
   ·simp only[if_true,VRel,VList]
    exact⟨_,rfl,_,_,rfl,PRel.toV _ _ _ _ hzr,_,_,rfl,rfl,rfl⟩
  ·cases hq
include hρ h
theorem lk_ok{d nx:Nat}{t kt et:TypeId}{m k:Operand}{m' k':Opd}{ok:Bool}{ek:EK}{z:T}(ho:o.op= .lookup t m k ok)(hm:opd m=some m')(hk:opd k=some k')(ht:P.underlying t=some (.map kt et))(hek:keyOf P kt=some ek)(hz:zeroT P et=some z)
  (hq:(opQ d st.rho (.lk ek m' k' z ok)).run st.get nx=some (.val v ups)):OpOk P B st a w β M o v ups:=by
 have vm:=hρ m m' hm
 have vk:=hρ k k' hk
 obtain⟨zv,z1,z2⟩:=zeroT_run hz w
 have fin: ∀(mm:Option Nat) (es:Array MapEntry) (clock:Nat) (ks vs:List T) (r:T),a.eval m= .map mm→((mm=none∧es= #[])∨ ∃blk,mm=some blk∧w.heap[blk]? =some (.map es clock))→PList w M ks (es.toList.map (·.key))→PList w M vs (es.toList.map (·.val))→
   lkIn ek ks vs (st.rho k') z ok=some r→OpOk P B st a w β M o r []:=by
  intro mm es clock ks vs r e1 e2 e3 e4 e5
  obtain⟨cv,r1,r2⟩:=lookup_run (P:=P) (β:=β) (st:=st) ht hek e2 e3 e4 vk z1 (z2 w M) e5
  exact same_ok h (cv:=cv) (by simp[execOp,ho,e1,r1]) r2
 simp only[opQ]at hq
 split at hq
 ·rename_i e
  rw[e]at vm;simp only[VRel]at vm
  split at hq
  ·rename_i hik
   simp[Q.run]at hq;obtain⟨rfl,rfl⟩:=hq
   exact fin none #[] 0 [] [] _ vm (.inl ⟨rfl,rfl⟩) (by simp[PList]) (by simp[PList]) (by simp[lkIn,hik,findI])
  ·simp[Q.run]at hq
 ·rename_i ks vs e
  rw[e]at vm;simp only[VRel,PRel]at vm
  obtain⟨blk,es,clock,e1,e2,_,_,e3,e4⟩:=vm
  cases hl:lkIn ek ks vs (st.rho k') z ok with
  |none=>simp[hl,Ev.val,Q.run]at hq
  |some r=>
   simp[hl,Ev.val,Q.run]at hq;obtain⟨rfl,rfl⟩:=hq
   exact fin _ es clock ks vs _ e1 (.inr ⟨blk,rfl,e2⟩) e3 e4 hl
 ·rename_i sp kk g e
  rw[e]at vm;simp only[VRel]at vm
  simp only[Q.run]at hq
  split at hq
  ·rename_i hg
   have hob:=h.obj sp kk
   generalize he:st.get sp kk=en at*
   obtain⟨ge,ob⟩:=en
   dsimp only at hg;subst hg
   cases ob with
   |none=>simp[Q.run]at hq
   |cells _ _ _=>simp[Q.run]at hq
   |map ks vs f=>
    dsimp only at hq
    unfold ORel at hob
    obtain⟨es,clock,e2,_,e3,e4,_⟩:=hob
    cases hl:lkIn ek ks vs (st.rho k') z ok with
    |none=>simp[hl,Ev.val,Q.run]at hq
    |some r=>
     simp[hl,Ev.val,Q.run]at hq;obtain⟨rfl,rfl⟩:=hq
     exact fin _ es clock ks vs _ vm.2 (.inr ⟨_,rfl,e2⟩) e3 e4 hl
  ·simp[Q.run]at hq
 ·simp[Q.run]at hq
omit hρ h
theorem PList.set{ts:List T}{vs:List Value}(i:Nat){t:T}{cv:Value}(h:PList w M ts vs)(ht:PRel w M t cv):PList w M (ts.set i t) (vs.set i cv):=by
 induction ts generalizing vs i with
 |nil=>simp only[PList]at h;subst h;simp[PList]
 |cons x xs ih=>
  simp only[PList]at h
  obtain⟨u,us,rfl,h1,h2⟩:=h
  cases i with
  |zero=>simp only[List.set_cons_zero,PList];exact⟨cv,us,rfl,ht,h2⟩
  |succ i=>simp only[List.set_cons_succ,PList];exact⟨u,_,rfl,h1,ih i h2⟩
theorem sameBits_cell{c:CK}{x y:T}{xv yv:Value}(hx:VRel β st.gens w M x xv)(hy:VRel β st.gens w M y yv)(h:eqCell c x y=some true)(n:Nat):Instr.sameBits n yv xv=true:=by
 unfold eqCell at h
 split at h
 ·simp at h;subst h;rw[hx.bool,hy.bool];simp[Instr.sameBits]
 ·split at h
  ·rename_i e;subst e;simp at h;subst h;rw[hx.int,hy.int];simp[Instr.sameBits]
  ·cases h
 ·simp at h;subst h
  obtain⟨b1,e1,f1⟩:=hx.str
  obtain⟨b2,e2,f2⟩:=hy.str
  rw[e1,e2]
  have:(b2==b1)=true:=by
   rw[beq_toListBytes,←toNat_inj_list,←bytesN_toList,←bytesN_toList,f1,f2];simp
  simp only[Instr.sameBits];exact this
 ·cases h
theorem sameBits_cells: ∀{ks:List CK} {xs ys:List T} {xv yv:List Value},VList β st.gens w M xs xv→VList β st.gens w M ys yv→eqCells ks xs ys=some true→ ∀n,xv.length=yv.length∧((yv.zip xv).all fun p=>Instr.sameBits n p.1 p.2)=true
 | [],xs,ys,xv,yv,hx,hy,h,n=>by
   cases xs <;> cases ys <;> simp[eqCells]at h
   simp only[VList]at hx hy;subst hx;subst hy;simp
 |k::ks,xs,ys,xv,yv,hx,hy,h,n=>by
  cases xs with
  |nil=>cases ys <;> simp[eqCells]at h
  |cons x xs=>
   cases ys with
   |nil=>simp[eqCells]at h
   |cons y ys=>
    simp only[VList]at hx hy
    obtain⟨u,us,rfl,h1,h2⟩:=hx
    obtain⟨u',us',rfl,h1',h2'⟩:=hy
    simp only[eqCells]at h
    cases hc:eqCell k x y with
    |none=>simp[hc]at h
    |some b=>
     cases b with
     |false=>simp[hc]at h
     |true=>
      simp only[hc]at h
      obtain⟨l1,l2⟩:=sameBits_cells h2 h2' h n
      simp only[List.length_cons,List.zip_cons_cons,List.all_cons,Bool.and_eq_true]
      exact⟨by omega,sameBits_cell h1 h1' hc n,l2⟩
theorem sameBits_key{ek:EK}{x y:T}{xv yv:Value}(hkind:(∃c,ek= .one c)∨ ∃ks,ek= .flat ks)(hx:VRel β st.gens w M x xv)(hy:VRel β st.gens w M y yv)(h:eqT ek x y=some true)(n:Nat):Instr.sameBits (n+1) yv xv=true:=by
 rcases hkind with⟨c,rfl⟩|⟨ks,rfl⟩
 ·exact sameBits_cell hx hy h _
 ·unfold eqT at h
  split at h <;> simp_all
  rename_i xs ys
  simp only[VRel]at hx hy
  obtain⟨xa,rfl,lx,_⟩:=hx
  obtain⟨ya,rfl,ly,_⟩:=hy
  obtain⟨l1,l2⟩:=sameBits_cells lx ly h n
  simp only[Instr.sameBits,Bool.and_eq_true]
  refine⟨by simp at l1 ⊢; exact l1.symm,l2⟩
theorem findI_eq{ek:EK}{k:T}: ∀{ks:List T} {i:Nat},findI ek k ks=some (some i)→ ∃x,ks[i]? =some x∧eqT ek k x=some true
 | [],i,h=>by simp[findI]at h
 |x::xs,i,h=>by
  simp only[findI]at h
  split at h
  ·rename_i he;simp at h;subst h;exact⟨x,rfl,he⟩
  ·simp only[Option.map_eq_some_iff]at h
   obtain⟨r,h1,h2⟩:=h
   cases r with
   |none=>simp at h2
   |some j=>
    simp at h2;subst h2
    obtain⟨y,e1,e2⟩:=findI_eq h1
    exact⟨y,by simpa using e1,e2⟩
  ·cases h
theorem eqCell_true{c:CK}{x y:T}{xv yv:Value}(hx:VRel β st.gens w M x xv)(hy:VRel β st.gens w M y yv)(h:eqCell c x y=some true):xv=yv:=by
 unfold eqCell at h
 split at h
 ·simp at h;subst h;rw[hx.bool,hy.bool]
 ·split at h
  ·rename_i e;subst e;simp at h;subst h;rw[hx.int,hy.int]
  ·cases h
 ·simp at h;subst h
  obtain⟨b1,e1,f1⟩:=hx.str
  obtain⟨b2,e2,f2⟩:=hy.str
  rw[e1,e2]
  have h3:bytesN b1=bytesN b2:=f1.trans f2.symm
  have h4:b1.data.toList=b2.data.toList:=(List.map_inj_right (f:=UInt8.toNat) (fun _ _ h=>UInt8.toNat_inj.1 h)).1 h3
  have h5:b1=b2:=ByteArray.ext (Array.toList_inj.1 h4)
  rw[h5]
 ·cases h
theorem eqCells_true: ∀{ks:List CK} {xs ys:List T} {xv yv:List Value},VList β st.gens w M xs xv→VList β st.gens w M ys yv→eqCells ks xs ys=some true→xv=yv
 | [],xs,ys,xv,yv,hx,hy,h=>by
   cases xs <;> cases ys <;> simp[eqCells]at h
   simp only[VList]at hx hy;subst hx;subst hy;rfl
 |k::ks,xs,ys,xv,yv,hx,hy,h=>by
  cases xs with
  |nil=>cases ys <;> simp[eqCells]at h
  |cons x xs=>
   cases ys with
   |nil=>simp[eqCells]at h
   |cons y ys=>
    simp only[VList]at hx hy
    obtain⟨u,us,rfl,h1,h2⟩:=hx
    obtain⟨u',us',rfl,h1',h2'⟩:=hy
    simp only[eqCells]at h
    cases hc:eqCell k x y with
    |none=>simp[hc]at h
    |some b=>
     cases b with
     |false=>simp[hc]at h
     |true=>
      simp only[hc]at h
      rw[eqCell_true h1 h1' hc,eqCells_true h2 h2' h]
theorem eqT_true{ek:EK}{x y:T}{xv yv:Value}(hkind:(∃c,ek= .one c)∨ ∃ks,ek= .flat ks)(hx:VRel β st.gens w M x xv)(hy:VRel β st.gens w M y yv)(h:eqT ek x y=some true):xv=yv:=by
 rcases hkind with⟨c,rfl⟩|⟨ks,rfl⟩
 ·exact eqCell_true hx hy h
 ·unfold eqT at h
  split at h <;> simp_all
  rename_i xs ys
  simp only[VRel]at hx hy
  obtain⟨xa,rfl,lx,_⟩:=hx
  obtain⟨ya,rfl,ly,_⟩:=hy
  have:=eqCells_true lx ly h
  rw[Array.toList_inj.1 this]
theorem eqCell_false{c:CK}{x y:T}{v:Value}(hx:VRel β st.gens w M x v)(hy:VRel β st.gens w M y v)(h:eqCell c x y=some false):False:=by
 unfold eqCell at h
 split at h
 ·have e:=hx.bool;rw[hy.bool]at e;cases e;simp at h
 ·split at h
  ·rename_i e;subst e
   have e:=hx.int;rw[hy.int]at e;cases e;simp at h
  ·cases h
 ·obtain⟨b1,e1,f1⟩:=hx.str
  obtain⟨b2,e2,f2⟩:=hy.str
  rw[e1]at e2;cases e2
  rw[←f1,←f2]at h;simp at h
 ·cases h
theorem eqCells_false: ∀{ks:List CK} {xs ys:List T} {v:List Value},VList β st.gens w M xs v→VList β st.gens w M ys v→eqCells ks xs ys=some false→False
 | [],xs,ys,v,hx,hy,h=>by
   cases xs <;> cases ys <;> simp[eqCells]at h
 |k::ks,xs,ys,v,hx,hy,h=>by
  cases xs with
  |nil=>cases ys <;> simp[eqCells]at h
  |cons x xs=>
   cases ys with
   |nil=>simp[eqCells]at h
   |cons y ys=>
    simp only[VList]at hx hy
    obtain⟨u,us,rfl,h1,h2⟩:=hx
    obtain⟨u',us',e,h1',h2'⟩:=hy
    cases e
    simp only[eqCells]at h
    cases hc:eqCell k x y with
    |none=>simp[hc]at h
    |some b=>
     cases b with
     |false=>exact eqCell_false h1 h1' hc
     |true=>
      simp only[hc]at h
      exact eqCells_false h2 h2' h
theorem eqT_false{ek:EK}{x y:T}{v:Value}(hkind:(∃c,ek= .one c)∨ ∃ks,ek= .flat ks)(hx:VRel β st.gens w M x v)(hy:VRel β st.gens w M y v)(h:eqT ek x y=some false):False:=by
 rcases hkind with⟨c,rfl⟩|⟨ks,rfl⟩
 ·exact eqCell_false hx hy h
 ·unfold eqT at h
  split at h <;> simp_all
  rename_i xs ys
  simp only[VRel]at hx hy
  obtain⟨xa,rfl,lx,_⟩:=hx
  obtain⟨ya,e,ly,_⟩:=hy
  cases e
  exact eqCells_false lx ly h
theorem findI_none{ek:EK}{k:T}: ∀{ks:List T},findI ek k ks=some none→ ∀x∈ks,eqT ek k x=some false
 | [],h,x,hx=>by simp at hx
 |y::ys,h,x,hx=>by
  simp only[findI]at h
  split at h
  ·simp at h
  ·rename_i he
   simp only[Option.map_eq_some_iff]at h
   obtain⟨r,h1,h2⟩:=h
   cases r with
   |some j=>simp at h2
   |none=>
    rcases List.mem_cons.1 hx with rfl|hx
    ·exact he
    ·exact findI_none h1 x hx
  ·cases h
theorem PList.getV{w:World}{M:MSet}: ∀{ts:List T} {vs:List Value},PList w M ts vs→ ∀{j:Nat} {v:Value},vs[j]? =some v→ ∃t,ts[j]? =some t∧PRel w M t v
 | [],vs,h,j,v,hv=>by simp only[PList]at h;subst h;simp at hv
 |x::xs,vs,h,j,v,hv=>by
  simp only[PList]at h
  obtain⟨u,us,rfl,h1,h2⟩:=h
  cases j with
  |zero=>simp at hv;subst hv;exact⟨x,rfl,h1⟩
  |succ j=>obtain⟨t,e1,e2⟩:=PList.getV h2 (j:=j) (v:=v) (by simpa using hv);exact⟨t,by simpa using e1,e2⟩
theorem H_map(h:HRel B st w β M){sp:Sp}{k g:Nat}{ks vs:List T}(he:st.get sp k=⟨g,.map ks vs false⟩)(es':Array MapEntry)(clock':Nat)(hst':MapKept.Stamped es' clock')(ks' vs':List T)(hk:PList w M ks' (es'.toList.map (·.key)))(hv:PList w M vs' (es'.toList.map (·.val))):
  HRel B (st.up (sp,k,⟨g,.map ks' vs' false⟩)) (setBlock w (β sp k g).blk (.map es' clock')) β M∧Tr st w β M (st.up (sp,k,⟨g,.map ks' vs' false⟩)) (setBlock w (β sp k g).blk (.map es' clock')) β M:=by
 have hg:st.gens sp k=g:=by show(st.get sp k).g=g;rw[he]
 have hlv:live (st.get sp k):=by rw[he];trivial
 have ho:=h.obj sp k
 rw[he]at ho
 unfold ORel at ho
 obtain⟨es,clock,h1,_,h2,h3,h4⟩:=ho
 dsimp only at h1 h4
 have hblt:=heap_lt h1
 have hkp:Keeps w M (setBlock w (β sp k g).blk (.map es' clock')) M:=by
  refine⟨fun b x u hu hm=> ?_,fun b es cl hu hm=> ?_,fun _ _ _ h=>h⟩
  ·by_cases hbb:b=(β sp k g).blk
   ·subst hbb;exact absurd (h4 rfl x) hm
   ·rw[cell_of_heap (w:=w) (by rw[heap_setBlock,if_neg (fun e=>hbb e.1)])];exact hu
  ·by_cases hbb:b=(β sp k g).blk
   ·subst hbb;exact absurd (h4 rfl 0) (hm 0)
   ·rw[heap_setBlock,if_neg (fun e=>hbb e.1)];exact hu
 have key:=H_put (M':=M) h sp k g (.map ks' vs' false) hlv (Nat.le_of_eq hg) (.map es' clock') (fun _ _ hm=>hm) (fun _ _ _ hm=>hm) (by rw[hg];exact hkp) (h.base hlv)
 rw[hg,updB_self]at key
 refine key ?_
 exact⟨es',clock',by rw[heap_setBlock,if_pos ⟨rfl,hblt⟩],hst',PList.mono hkp _ _ hk,PList.mono hkp _ _ hv,h4⟩
include hρ h
theorem mu_ok{d:Nat}{t kt et:TypeId}{m k x:Operand}{m' k' x':Opd}{ek:EK}(ho:o.op= .mapUpdate t m k x)(hm:opd m=some m')(hk:opd k=some k')(hx:opd x=some x')(ht:P.underlying t=some (.map kt et))(hek:keyOf P kt=some ek)
  (hq:(opQ d st.rho (.mu ek m' k' x')).run st.get st.sh.length=some (.val v ups)):OpOk P B st a w β M o v ups:=by
 have vm:=hρ m m' hm
 have vk:=hρ k k' hk
 have vx:=hρ x x' hx
 simp only[opQ]at hq
 split at hq
 ·rename_i sp kk g e
  rw[e]at vm;simp only[VRel]at vm
  simp only[Q.run]at hq
  split at hq
  ·rename_i hg
   simp at hg
   obtain⟨hg,hik⟩:=hg
   generalize he:st.get sp kk=en at*
   obtain⟨ge,ob⟩:=en
   dsimp only at hg;subst hg
   split at hq
   ·rename_i ks vs heq
    dsimp only at heq;subst heq
    simp only[Q.run_bind]at hq
    cases hz:(fz false fzFuel (st.rho x')).run st.get st.sh.length with
    |none=>simp[hz]at hq
    |some p=>
     obtain⟨t',us⟩:=p
     simp only[hz,Option.bind_some]at hq
     split at hq
     ·rename_i q hput
      split at hq
      ·simp[Q.run]at hq
      ·rename_i hh
       simp at hh
       simp[Q.run]at hq;obtain⟨rfl,rfl⟩:=hq
       obtain⟨M',q1,q2,q3,q4,q5⟩:=fz_ok _ st fzFuel (st.rho x') B st w β M _ t' us _ (Fz.refl st) h vx hz
       have q4':PRel w M' t' (a.eval x):=q4
       have he':(st.ups us).get sp kk=⟨ge,.map ks vs false⟩:=by rw[get_ups_miss st us sp kk hh];exact he
       have hob:=q1.obj sp kk
       rw[he']at hob
       unfold ORel at hob
       obtain⟨es,clock,e2,hst,e3,e4,_⟩:=hob
       dsimp only at e2
       have vk':VRel β st.gens w M' (st.rho k') (a.eval k):=VRel.mono (keeps_less q3) (fun _ _ _ _=>rfl) (fun _ _=>Nat.le_refl _) _ _ vk
       have hck:(Instr.checkKey false 10000 kt (a.eval k)).run P w= .ok () w:=checkKey_ok (P:=P) hek vk' hik 9998 false
       obtain⟨_,hkind⟩:=key_ek hek
       have kp:PRel w M' (st.rho k') (a.eval k):=by
        generalize st.rho k'=tk at*
        cases tk <;> rcases hkind with⟨c,rfl⟩|⟨cs,rfl⟩ <;> (try (cases c)) <;> simp[isKey,isCell]at hik
        all_goals first
         |(simp only[VRel]at vk';simp only[PRel];exact vk';done)
         |skip
        rename_i xs
        simp only[VRel]at vk'
        obtain⟨arr,e5,l5,s5⟩:=vk'
        simp only[PRel]
        refine⟨arr,e5, ?_,s5⟩
        have: ∀(cs:List CK) (xs:List T) (vs:List Value),isCells cs xs=true→VList β st.gens w M' xs vs→PList w M' xs vs:=by
         intro cs
         induction cs with
         |nil=>intro xs vs hc hv;cases xs <;> simp[isCells]at hc;simpa only[VList,PList]using hv
         |cons c cs ih=>
          intro xs vs hc hv
          cases xs with
          |nil=>simp[isCells]at hc
          |cons x xs=>
           simp only[isCells,Bool.and_eq_true]at hc
           simp only[VList]at hv;simp only[PList]
           obtain⟨u,us,rfl,w1,w2⟩:=hv
           refine⟨u,us,rfl, ?_,ih xs us hc.2 w2⟩
           cases c <;> cases x <;> simp[isCell]at hc <;> simp only[VRel]at w1 <;> simp only[PRel] <;> exact w1
        exact this _ _ _ hik l5
       have run: ∀(res:Option (Nat×Value)) (es':Array MapEntry) (clock':Nat),(Instr.findKey kt (a.eval k) es.toList).run P w= .ok res w→
         (match res with
           |some (i,_)=>do
            let key ←Instr.keyThatStays (((es[i]?).map (fun e:MapEntry=>e.key)).getD (a.eval k)) (a.eval k)
            setObj (β sp kk ge).blk (.map (es.modify i fun e=>{e with key,val:=a.eval x}) clock)
           |none=>setObj (β sp kk ge).blk (.map (es.push {key:=a.eval k,val:=a.eval x,born:=clock}) (clock+1))).run P w= .ok () (setBlock w (β sp kk ge).blk (.map es' clock'))→
         (execOp a.eval o).run P w= .ok .skip (setBlock w (β sp kk ge).blk (.map es' clock')):=by
        intro res es' clock' hres hset
        have:(Instr.mapUpdate t (.map (some (β sp kk ge).blk)) (a.eval k) (a.eval x)).run P w= .ok () (setBlock w (β sp kk ge).blk (.map es' clock')):=by
         unfold Instr.mapUpdate
         simp only[Sem.run_bind,run_underlying ht,Result.andThen_ok]
         have hgo:(getObj (β sp kk ge).blk).run P w= .ok (.map es clock) w:=by simp[getObj,Sem.run,e2]
         simp only[hgo,Result.andThen_ok,Sem.run_bind,hck,hres]
         cases res with
         |none=>exact hset
         |some p=>exact hset
        simp[execOp,ho,vm.2,this]
       have hset: ∀(es':Array MapEntry) (c':Nat),(setObj (β sp kk ge).blk (.map es' c')).run P w= .ok () (setBlock w (β sp kk ge).blk (.map es' c')):=by
        intro es' c';simp[setObj,Sem.run,e2,setBlock]
       unfold putK at hput
       split at hput
       ·rename_i i hf
        simp at hput;subst hput
        obtain⟨res,r1,e,r2,r3⟩:=findKey_ok (P:=P) hek vk' es.toList ks _ e3 hf
        obtain⟨kx,kx1,kx2⟩:=findI_eq hf
        obtain⟨kcv,kc1,kc2⟩:=e3.get kx1
        rw[List.getElem?_map,r2]at kc1
        simp at kc1
        have hsb:=sameBits_key (β:=β) (st:=st) hkind vk' (PRel.toV β st.gens _ _ kc2) kx2 9999
        have hei:es[i]? =some e:=by simpa using r2
        simp only[Nat.zero_add]at r3
        have hkt:(Instr.keyThatStays (((es[i]?).map (fun e:MapEntry=>e.key)).getD (a.eval k)) (a.eval k)).run P w= .ok (a.eval k) w:=by
         rw[hei];simp only[Option.map_some,Option.getD_some,kc1]
         unfold Instr.keyThatStays
         rw[if_pos hsb];rfl
        obtain⟨hh1,hh2⟩:=H_map q1 he' (es.modify i fun e=>{e with key:=a.eval k,val:=a.eval x}) clock (MapKept.stamped_modify hst i _ (fun _ _=>rfl) (fun e' _ he2=>by
         have hh:e'=e:=by rw[hei]at he2;exact(Option.some.inj he2).symm
         subst hh
         exact(eqT_true hkind vk' (PRel.toV β st.gens _ _ kc2) kx2).trans kc1.symm)) (ks.set i (st.rho k')) (vs.set i t') (by
         have:=PList.set i e3 kp
         have e5:(es.modify i fun e=>{e with key:=a.eval k,val:=a.eval x}).toList.map (·.key)=(es.toList.map (·.key)).set i (a.eval k):=by
          apply List.ext_getElem?;intro j
          rw[Array.toList_modify,List.getElem?_map,List.getElem?_modify,List.getElem?_set,List.getElem?_map]
          by_cases hj:i=j
          ·subst hj;rw[r2];simp;exact(List.getElem?_eq_some_iff.1 r2).1
          ·simp[hj]
         rw[e5];exact this) (by
         have:=PList.set i e4 q4'
         have e5:(es.modify i fun e=>{e with key:=a.eval k,val:=a.eval x}).toList.map (·.val)=(es.toList.map (·.val)).set i (a.eval x):=by
          apply List.ext_getElem?;intro j
          rw[Array.toList_modify,List.getElem?_map,List.getElem?_modify,List.getElem?_set,List.getElem?_map]
          by_cases hj:i=j
          ·subst hj;rw[r2];simp;exact(List.getElem?_eq_some_iff.1 r2).1
          ·simp[hj]
         rw[e5];exact this)
        refine⟨.skip,undef,_,β,M',run res _ clock r1 ?_,.inr ⟨rfl,rfl⟩,by rw[ups_append];exact hh1,by rw[ups_append];exact(Tr.fz q2 q3).trans hh2 (Nat.le_refl _),by rw[size_setBlock];exact Nat.le_refl _,by simp[VRel,undefT,undef,VList]⟩
        subst r3
        simp only[Sem.run_bind,hkt,Result.andThen_ok]
        exact hset _ _
       ·rename_i hf
        simp at hput;subst hput
        obtain⟨res,r1,r2⟩:=findKey_ok (P:=P) hek vk' es.toList ks _ e3 hf
        have:res=none:=r2
        subst this
        obtain⟨hh1,hh2⟩:=H_map q1 he' (es.push {key:=a.eval k,val:=a.eval x,born:=clock}) (clock+1) (MapKept.stamped_push hst (fun y hy he2=>by
         obtain⟨j,hj⟩:=List.getElem?_of_mem hy
         obtain⟨kx,kx1,kx2⟩:=e3.getV (j:=j) (v:=y.key) (by rw[List.getElem?_map,hj];rfl)
         rw[he2]at kx2
         exact eqT_false hkind vk' (PRel.toV β st.gens _ _ kx2) (findI_none hf _ (List.mem_of_getElem? kx1)))) (ks++ [st.rho k']) (vs++ [t']) (by
         simp only[Array.toList_push,List.map_append,List.map_cons,List.map_nil]
         exact PList.append e3 (by simp only[PList];exact⟨_,_,rfl,kp,rfl⟩)) (by
         simp only[Array.toList_push,List.map_append,List.map_cons,List.map_nil]
         exact PList.append e4 (by simp only[PList];exact⟨_,_,rfl,q4',rfl⟩))
        exact⟨.skip,undef,_,β,M',run none _ (clock+1) r1 (hset _ _),.inr ⟨rfl,rfl⟩,by rw[ups_append];exact hh1,by rw[ups_append];exact(Tr.fz q2 q3).trans hh2 (Nat.le_refl _),by rw[size_setBlock];exact Nat.le_refl _,by simp[VRel,undefT,undef,VList]⟩
       ·cases hput
     ·simp[Q.run]at hq
   ·simp[Q.run]at hq
  ·simp[Q.run]at hq
 ·simp[Q.run]at hq
end
end Go.Ev
namespace Go.Ev
open Go
theorem growBy_le(newLen:Nat): ∀(r c:Nat),c≤newLen+(newLen+768)/4→Builtin.growBy newLen r c≤newLen+(newLen+768)/4
 |0,c,h=>by simpa[Builtin.growBy]using h
 |r+1,c,h=>by
  simp only[Builtin.growBy]
  split
  ·exact h
  ·exact growBy_le newLen r _ (by omega)
theorem next_le(need old:Nat)(h:old<need):Builtin.nextslicecap need old≤2*need+192:=by
 unfold Builtin.nextslicecap
 split
 ·omega
 ·split
  ·omega
  ·have:=growBy_le need 4 old (by omega)
   omega
theorem next_fits{need old bytes:Nat}(h:old<need)(hb:need*bytes≤1099511627776)(h0:bytes≠0):Builtin.nextslicecap need old*bytes≤281474976710656:=by
 have h1:=Nat.mul_le_mul_right bytes (next_le need old h)
 have h2:bytes≤need*bytes:=Nat.le_mul_of_pos_left bytes (by omega)
 have h3:(2*need+192)*bytes=2*(need*bytes)+192*bytes:=by rw[Nat.add_mul,Nat.mul_assoc]
 omega
section
variable{P:Program}{B:Base}{st:St}{a:Act}{w:World}{β:Beta}{M:MSet}{o:Oper}{v:T}{ups:List Up}
theorem sliceCells_ok(h:HRel B st w β M){sz nx n:Nat}{x:T}{cx:Value}{xs:List T}(vx:VRel β st.gens w M x cx)(hq:(sliceCells sz x).run st.get nx=some (n,xs)):
  ∃news:List Value,(∀w':World,w'.heap=w.heap→(Builtin.lenOf cx).run P w'= .ok n w'∧(Builtin.firstCells sz n cx).run P w'= .ok news.toArray w')∧PList w M xs news∧xs.all single=true∧xs.length=n*sz:=by
 unfold sliceCells at hq
 split at hq
 ·simp[Q.run]at hq;obtain⟨rfl,rfl⟩:=hq
  simp only[VRel]at vx;subst vx
  exact⟨[],fun w' _=>⟨by simp[Builtin.lenOf],by simp[Builtin.firstCells]⟩,by simp[PList],rfl,by simp⟩
 ·rename_i cs len ex
  split at hq
  ·rename_i hl
   simp[Q.run]at hq;obtain⟨rfl,rfl⟩:=hq
   simp only[VRel,PRel]at vx
   obtain⟨blk,off,cap,sp,rfl,h1,h2,h5,h3⟩:=vx
   obtain⟨vs,e1,e2,e3,e4⟩:=PCells.load (P:=P) h3
   refine⟨vs,fun w' hw=>⟨by simp[Builtin.lenOf], ?_⟩,e3,e4,hl⟩
   have:=run_loadCells_list (P:=P) w' ⟨blk,off,sp⟩ vs (fun j u hu=>by
    rcases h5 with h5|h5
    ·subst h5
     rw[add_none]
     have:=e2 j u hu
     unfold World.cell? at this ⊢; rw[hw];exact this
    ·exfalso
     have hz:len=0:=by omega
     have h0:vs= []:=List.length_eq_zero_iff.1 (by rw[e1,hl,hz,Nat.zero_mul])
     subst h0;simp at hu)
   rw[e1,hl]at this
   simp[Builtin.firstCells,this]
  ·simp[Q.run]at hq
 ·rename_i sp k g off len sz'
  split at hq
  ·rename_i hsz
   subst hsz
   simp only[Q.run]at hq
   split at hq
   ·rename_i hg
    have hob:=h.obj sp k
    generalize he:st.get sp k=en at*
    obtain⟨ge,ob⟩:=en
    dsimp only at hg;subst hg
    cases ob with
    |none=>simp[Q.run]at hq
    |map _ _ _=>simp[Q.run]at hq
    |cells cs wm bx=>
     cases bx with
     |true=>simp[Q.run]at hq
     |false=>
      dsimp only at hq
      split at hq
      ·rename_i hle
       simp[Q.run]at hq;obtain⟨rfl,rfl⟩:=hq
       unfold ORel at hob
       obtain⟨c,el,fz,h1,h2,h3,h4,h5,h6,h7,h8⟩:=hob
       dsimp only at h1 h2 h3 h5
       simp only[VRel]at vx
       obtain⟨q1,cap,rfl,q2,q3⟩:=vx
       have h5':=PList.take (len*sz') (PList.drop off h5)
       rw[List.drop_take,List.drop_drop,List.take_take]at h5'
       have emin:min (len*sz') (cs.length-off)=len*sz':=by omega
       rw[emin]at h5'
       have hlen:((cs.drop off).take (len*sz')).length=len*sz':=by simp;omega
       refine⟨(c.toList.drop ((β sp k ge).off+off)).take (len*sz'),fun w' hw=>⟨by simp[Builtin.lenOf], ?_⟩,h5',all_drop_take h7 _ _,hlen⟩
       have hll:=PList.length _ _ h5'
       rw[hlen]at hll
       have:=run_loadCells_list (P:=P) w' ⟨(β sp k ge).blk,(β sp k ge).off+off,none⟩ ((c.toList.drop ((β sp k ge).off+off)).take (len*sz')) (fun j u hu=>by
        rw[add_none]
        rw[List.getElem?_take]at hu
        split at hu
        ·rw[List.getElem?_drop]at hu
         unfold World.cell?;rw[hw,h1];simpa using hu
        ·cases hu)
       rw[←hll]at this
       simp[Builtin.firstCells,this]
      ·simp[Q.run]at hq
   ·simp[Q.run]at hq
  ·simp[Q.run]at hq
 ·rename_i l
  split at hq
  ·rename_i hsz
   subst hsz
   simp[Q.run]at hq;obtain⟨rfl,rfl⟩:=hq
   obtain⟨bs,rfl,rfl⟩:=vx.str
   refine⟨bs.data.toList.map fun b=> .int .u8 b.toNat,fun w' _=>⟨by simp[Builtin.lenOf,bytesN_length], ?_⟩, ?_, ?_,by simp⟩
   ·have e1:(bs.extract 0 bs.size).data=bs.data:=by
     apply Array.ext'
     rw[ByteArray.data_extract,Array.toList_extract,List.extract_eq_take_drop]
     rw[List.drop_zero]
     exact List.take_of_length_le (by show bs.data.toList.length≤bs.data.size-0;simp)
    simp only[Builtin.firstCells,bytesN_length,e1,Sem.run_pure]
    congr 1
    apply Array.ext';simp
   ·unfold bytesN
    rw[List.map_map]
    generalize bs.data.toList=l
    induction l with
    |nil=>simp[PList]
    |cons b l ih=>simp only[List.map_cons,PList];exact⟨_,_,rfl,by simp[PRel],ih⟩
   ·rw[List.all_eq_true];intro x hx;simp at hx;obtain⟨_,_,rfl⟩:=hx;rfl
  ·simp[Q.run]at hq
 ·simp[Q.run]at hq
theorem append_grow{t u ty e:TypeId}{ud:TypeDesc}{i:TypeInfo}{z:Value}(ht:P.underlying t=some (.slice e))(hu:P.underlying u=some ud)(hud:ud= .string∨ ∃e',ud= .slice e')(hi:P.info? e=some i)(hz:i.zero=some z)
  {base:Option Addr} {sLen sCap n:Nat} {cx:Value} {olds news:List Value} (hn:(Builtin.lenOf cx).run P w= .ok n w) (hnews:(Builtin.firstCells i.size n cx).run P w.drew= .ok news.toArray w.drew) (holds:(Builtin.firstCells i.size sLen (.slice base sLen sCap)).run P w.drew= .ok olds.toArray w.drew)
  (hg:sCap<sLen+n) (hb:(sLen+n)*i.bytes≤1099511627776) (h0:i.bytes≠0):
  (Builtin.append_ #[t,u] ty #[.slice base sLen sCap,cx]).run P w= .ok (.slice (some ⟨w.heap.size,0,none⟩) (sLen+n) (grownCap w (sLen+n) sCap e))
     (w.drew.alloc (.cells (olds.toArray++news.toArray++Builtin.zeroCells z.cells (grownCap w (sLen+n) sCap e-(sLen+n))) e)):=by
 have hn': ¬(sLen+n≤sCap):=by omega
 have hlt:sLen+n≤(sLen+n)*i.bytes:=Nat.le_mul_of_pos_right _ (by omega)
 have h63: ¬(9223372036854775807<((sLen:Int)+(n:Int))):=by omega
 have h48: ¬(281474976710656<Builtin.nextslicecap (sLen+n) sCap*i.bytes):=by have:=next_fits hg hb h0;omega
 rcases hud with rfl|⟨e',rfl⟩ <;>
 ·simp[Builtin.append_,run_underlying ht,run_underlying hu,sizeOf,typeInfo,zeroValue,hi,hz,hn,hn',h63,h48,Question.forced,hnews,holds,newRow,grownCap]
  congr 2
  apply Array.ext'
  simp[List.append_assoc]
theorem append_room{t u ty e:TypeId}{ud:TypeDesc}{i:TypeInfo}(ht:P.underlying t=some (.slice e))(hu:P.underlying u=some ud)(hud:ud= .string∨ ∃e',ud= .slice e')(hi:P.info? e=some i)
  {base:Option Addr} {sLen sCap n:Nat} {cx:Value} {news:List Value} {w':World} (hn:(Builtin.lenOf cx).run P w= .ok n w) (hnews:(Builtin.firstCells i.size n cx).run P w= .ok news.toArray w)
  (hroom:sLen+n≤sCap) (hst:match base with|some ad=>(storeCells (ad.add (sLen*i.size)) news).run P w= .ok () w'|none=>w'=w):
  (Builtin.append_ #[t,u] ty #[.slice base sLen sCap,cx]).run P w= .ok (.slice base (sLen+n) sCap) w':=by
 rcases hud with rfl|⟨e',rfl⟩ <;>
 ·cases base with
  |none=>
   dsimp only at hst;subst hst
   simp[Builtin.append_,run_underlying ht,run_underlying hu,sizeOf,typeInfo,hi,hn,hroom,hnews]
  |some ad=>
   dsimp only at hst
   simp[Builtin.append_,run_underlying ht,run_underlying hu,sizeOf,typeInfo,hi,hn,hroom,hnews,hst]
theorem new_row{bx:Bool}(h:HRel B st w β M)(el:TypeId)(c:Array Value)(cs:List T)(wm:Nat)(sp:Sp)(k g:Nat)(hg:st.gens sp k<g)
  (hl:PList w M cs (c.toList.take cs.length)) (hs:cs.all single=true) (hle:cs.length≤c.size) (hwm:wm≤cs.length):
  HRel B (st.up (sp,k,⟨g,.cells cs wm bx⟩)) (w.alloc (.cells c el)) (updB β sp k g ⟨w.heap.size,0,c.size⟩) (fun b x=>M b x∨b=w.heap.size)∧
  Tr st w β M (st.up (sp,k,⟨g,.cells cs wm bx⟩)) (w.alloc (.cells c el)) (updB β sp k g ⟨w.heap.size,0,c.size⟩) (fun b x=>M b x∨b=w.heap.size):=by
 refine H_new h sp k g hg (.cells c el) c.size (.cells cs wm bx) ?_
 unfold ORel
 simp only[updB_same]
 refine⟨c,el,(0,0),by rw[heap_alloc,if_pos rfl],by omega,hle,rfl, ?_,fun j _ _=>Or.inr (by trivial),hs,hwm⟩
 simp only[List.drop_zero]
 exact OList.ofP (PList.mono (keeps_alloc' w M _) _ _ hl)
variable(hρ:RhoOk β st.gens w M st.rho a.eval)(h:HRel B st w β M)
include hρ h
theorem app_ok{d:Nat}{sh nm:Bool}{c:Call}{t u e:TypeId}{ud:TypeDesc}{i:TypeInfo}{z:Value}{s x:Operand}{s' x':Opd}(ho:o.op= .call c)(hb:c.callee= .builtin .append)(hts:c.argTypes.toList= [t,u])(has:c.args.toList= [s,x])
  (ht:P.underlying t=some (.slice e)) (hu:P.underlying u=some ud) (hud:ud= .string∨ ∃e',ud= .slice e') (hi:P.info? e=some i) (hz:i.zero=some z) (hsz:i.size=z.cells.size) (h0:i.size≠0) (hby:i.bytes≠0) (hs:opd s=some s') (hx:opd x=some x')
  (hq:(opQ d st.rho (.app i.size i.bytes s' x' sh nm)).run st.get st.sh.length=some (.val v ups)):OpOk P B st a w β M o v ups:=by
 have vs:=hρ s s' hs
 have vx:=hρ x x' hx
 have hty:c.argTypes= #[t,u]:=by apply Array.ext';simp[hts]
 have exec: ∀cv w',(Builtin.append_ #[t,u] o.type #[a.eval s,a.eval x]).run P w= .ok cv w'→(execOp a.eval o).run P w= .ok (.value cv) w':=by
  intro cv w' hr
  rw[builtin_exec ho hb,map_two has,hty]
  simp[builtin,hr]
 simp only[opQ,appAt,Q.run_bind]at hq
 cases hsc:(sliceCells i.size (st.rho x')).run st.get st.sh.length with
 |none=>simp[hsc]at hq
 |some p=>
  obtain⟨n,xs⟩:=p
  simp only[hsc,Option.bind_some]at hq
  obtain⟨news,hrun,n1,n2,n3⟩:=sliceCells_ok (P:=P) h vx hsc
  have hnl:news.length=n*i.size:=by rw[←PList.length _ _ n1,n3]
  by_cases hn0:n=0
  ·rw[if_pos hn0]at hq
   subst hn0
   have hnews:news= []:=by apply List.eq_nil_of_length_eq_zero;simpa using hnl
   subst hnews
   have same: ∀base sLen sCap,a.eval s= .slice base sLen sCap→sLen≤sCap→OpOk P B st a w β M o (st.rho s') []:=by
    intro base sLen sCap es hle
    refine same_ok h (cv:= .slice base sLen sCap) ?_ (by rw[←es];exact vs)
    have:=append_room (P:=P) (w:=w) (w':=w) (t:=t) (u:=u) (ty:=o.type) (base:=base) (sLen:=sLen) (sCap:=sCap) (cx:=a.eval x) (n:=0) (news:= []) ht hu hud hi (hrun w rfl).1 (hrun w rfl).2 (by omega) (by cases base <;> simp[storeCells])
    exact exec _ _ (by rw[es];exact this)
   split at hq
   ·rename_i es
    simp[Q.run]at hq;obtain⟨rfl,rfl⟩:=hq
    have vs':=vs;rw[es]at vs';simp only[VRel]at vs'
    exact same _ _ _ vs' (Nat.le_refl _)
   ·rename_i cs len ex es
    simp[Q.run]at hq;obtain⟨rfl,rfl⟩:=hq
    have vs':=vs;rw[es]at vs';simp only[VRel,PRel]at vs'
    obtain⟨blk,off,cap,sp,e1,e2,_⟩:=vs'
    exact same _ _ _ e1 e2
   ·rename_i sp k g off len sz es
    simp[Q.run]at hq;obtain⟨rfl,rfl⟩:=hq
    have vs':=vs;rw[es]at vs';simp only[VRel]at vs'
    obtain⟨_,cap,e1,e2,_⟩:=vs'
    exact same _ _ _ e1 e2
   ·simp[Q.run]at hq
  ·rw[if_neg hn0]at hq
   have hz0:z.cells.size≠0:=by omega
   have grow: ∀(bx:Bool) (base:Option Addr) (sLen sCap:Nat) (olds:List Value) (os:List T) (sp:Sp) (k g wm:Nat),a.eval s= .slice base sLen sCap→sCap<sLen+n→(sLen+n)*i.bytes≤1099511627776→PList w M os olds→os.all single=true→os.length=sLen*i.size→
     (Builtin.firstCells i.size sLen (.slice base sLen sCap)).run P w.drew= .ok olds.toArray w.drew→st.gens sp k<g→wm≤os.length→OpOk P B st a w β M o (.isl sp k g 0 (sLen+n) i.size) [(sp,k,⟨g,.cells (os++xs) wm bx⟩)]:=by
    intro bx base sLen sCap olds os sp k g wm es hlt hroom ho1 ho2 ho3 hfc hg hwm
    have hr:=append_grow (P:=P) (w:=w) (t:=t) (u:=u) (ty:=o.type) (base:=base) (sLen:=sLen) (sCap:=sCap) (cx:=a.eval x) (n:=n) (olds:=olds) (news:=news) ht hu hud hi hz (hrun w rfl).1 (hrun w.drew rfl).2 hfc hlt hroom hby
    obtain⟨hd1,hd2⟩:=H_drawn h (w.drawn+1)
    have hol:olds.length=sLen*i.size:=by rw[←PList.length _ _ ho1,ho3]
    have hcap:=grownCap_ge w (sLen+n) sCap e
    have hcs:(olds.toArray++news.toArray++Builtin.zeroCells z.cells (grownCap w (sLen+n) sCap e-(sLen+n))).size=grownCap w (sLen+n) sCap e*i.size:=by
     rw[Array.size_append,Array.size_append,size_zeroCells]
     simp only[List.size_toArray,hol,hnl,←hsz]
     rw[←Nat.add_mul,←Nat.add_mul];congr 1;omega
    have hlen:(os++xs).length=olds.length+news.length:=by simp[ho3,n3,hol,hnl]
    obtain⟨r1,r2⟩:=new_row (bx:=bx) hd1 e (olds.toArray++news.toArray++Builtin.zeroCells z.cells (grownCap w (sLen+n) sCap e-(sLen+n))) (os++xs) wm sp k g hg (by
     have:(olds.toArray++news.toArray++Builtin.zeroCells z.cells (grownCap w (sLen+n) sCap e-(sLen+n))).toList.take (os++xs).length=olds++news:=by
      rw[hlen]
      simp only[Array.toList_append,List.toList_toArray]
      rw[List.take_append_of_le_length (by simp)]
      exact List.take_of_length_le (by simp)
     rw[this]
     exact PList.mono hd2.keep _ _ (PList.append ho1 n1)) (by simp only[List.all_append,Bool.and_eq_true];exact⟨ho2,n2⟩) (by
     rw[hcs,hlen,hol,hnl,←Nat.add_mul];exact Nat.mul_le_mul_right _ hcap) (by simp;omega)
    refine⟨_,_,_,_,_,exec _ _ (by rw[es];exact hr),.inl rfl,r1,hd2.trans r2 (Nat.le_refl _), ?_, ?_⟩
    ·show w.heap.size≤(w.heap.push _).size;simp
    ·simp only[VRel]
     refine⟨by simp[St.ups,gens_up],grownCap w (sLen+n) sCap e, ?_,hcap, ?_⟩
     ·rw[updB_same]
     ·rw[updB_same,hcs];exact Nat.le_of_eq (Nat.zero_add _)
   split at hq
   ·rename_i es
    rw[es]at vs;simp only[VRel]at vs
    split at hq
    ·rename_i hroom
     unfold roomy at hroom
     obtain⟨sp,k,g,rfl,rfl,hg,_⟩:=newOb_run hq
     have:=grow nm none 0 0 [] [] sp k g 0 vs (by omega) (by simpa using hroom) (by simp[PList]) rfl (by simp) (by simp[Builtin.firstCells]) hg (Nat.zero_le _)
     simpa using this
    ·simp[Q.run]at hq
   ·rename_i cs len es
    rw[es]at vs;simp only[VRel,PRel]at vs
    obtain⟨blk,off,cap,sp',e1,e2,e3,e5,e4⟩:=vs
    have:=e3 trivial;subst this
    split at hq
    ·rename_i hroom
     simp at hroom
     unfold roomy at hroom
     obtain⟨sp,k,g,rfl,rfl,hg,_⟩:=newOb_run hq
     obtain⟨ol,f1,f2,f3,f4⟩:=PCells.load (P:=P) e4
     refine grow false _ _ _ ol cs sp k g 0 e1 (by omega) hroom.2 f3 f4 hroom.1 ?_ hg (Nat.zero_le _)
     have:=run_loadCells_list (P:=P) w.drew ⟨blk,off,sp'⟩ ol (fun j u hu=>by
      rcases e5 with e5|e5
      ·subst e5
       rw[add_none];have:=f2 j u hu;unfold World.cell? at this ⊢; exact this
      ·exfalso
       have h0:ol= []:=List.length_eq_zero_iff.1 (by rw[f1,hroom.1,e5,Nat.zero_mul])
       subst h0;simp at hu)
     rw[f1,hroom.1]at this
     simp[Builtin.firstCells,this]
    ·simp[Q.run]at hq
   ·rename_i sp k g off len sz es
    rw[es]at vs;simp only[VRel]at vs
    obtain⟨q1,cap,e1,e2,e3⟩:=vs
    split at hq
    ·rename_i hroom
     simp at hroom
     unfold roomy at hroom
     obtain⟨⟨rfl,rfl⟩,hroom⟩:=hroom
     simp only[Q.run]at hq
     split at hq
     ·rename_i hg
      have hob:=h.obj sp k
      generalize he:st.get sp k=en at*
      obtain⟨ge,ob⟩:=en
      dsimp only at hg;subst hg
      cases ob with
      |none=>simp[Q.run]at hq
      |map _ _ _=>simp[Q.run]at hq
      |cells cs wm bx=>
       cases bx with
       |true=>simp[Q.run]at hq
       |false=>
        dsimp only at hq
        split at hq
        ·rename_i hlen
         simp[Q.run]at hq;obtain⟨rfl,rfl⟩:=hq
         unfold ORel at hob
         obtain⟨cc,el,fz,h1,h2,h3,h4,h5,h6,h7,h8⟩:=hob
         dsimp only at h1 h2 h3 h4 h5 h6
         subst h4
         have hgens:st.gens sp k=ge:=by show(st.get sp k).g=ge;rw[he]
         by_cases hfit:len+n≤cap
         ·have hfit2:(len+n)*i.size≤cap*i.size:=Nat.mul_le_mul_right _ hfit
          rw[Nat.add_mul]at hfit2
          have hone:=VList.one (PList.toV β st.gens _ _ n1) n2
          have hst:=run_storeCells_at P (β sp k ge).blk ((β sp k ge).off+len*i.size) el news 0 cc w h1 (by omega) hone
          rw[setRow_setBlock h1]at hst
          simp only[Nat.add_zero]at hst
          rw[seg_eq _ _ _ (by simp;omega)]at hst
          have hr:=append_room (P:=P) (w:=w) (t:=t) (u:=u) (ty:=o.type) (base:=some ⟨(β sp k ge).blk,(β sp k ge).off+0,none⟩) (sLen:=len) (sCap:=cap) (cx:=a.eval x) (n:=n) (news:=news) ht hu hud hi (hrun w rfl).1 (hrun w rfl).2 hfit (by
           dsimp only;rw[add_none];simpa using hst)
          have key:=H_splice h he (ge+1) (Nat.le_succ _) h1 (len*i.size) news (cs++xs) (by omega) (by omega) (by simp) (by simp[n3];omega) (by simp only[List.all_append,Bool.and_eq_true];exact⟨h7,n2⟩) (by
           show PList w M _ _
           have h5:PList w M cs _:=h5
           have:(splice (cc.toList.drop (β sp k ge).off) (len*i.size) news).take (cs++xs).length=(cc.toList.drop (β sp k ge).off).take cs.length++news:=by
            rw[←seg_eq _ _ _ (by simp;omega),hlen,List.take_append_of_le_length (by simp[n3,hnl];omega)]
            exact List.take_of_length_le (by simp[n3,hnl];omega)
           rw[this]
           exact PList.append h5 n1)
          refine⟨_,_,_,_,_,exec _ _ (by rw[e1];exact hr),.inl rfl,key.1,key.2,by rw[size_setBlock];exact Nat.le_refl _, ?_⟩
          simp only[VRel]
          refine⟨by simp[St.ups,gens_up],cap,by rw[updB_same],hfit,by rw[updB_same];exact e3⟩
         ·have h5':PList w M cs ((cc.toList.drop (β sp k ge).off).take cs.length):=h5
          refine grow false _ len cap ((cc.toList.drop (β sp k ge).off).take cs.length) cs sp k (ge+1) wm e1 (by omega) hroom h5' h7 hlen.symm ?_ (by rw[hgens];omega) h8
          have hll:=PList.length _ _ h5'
          have:=run_loadCells_list (P:=P) w.drew ⟨(β sp k ge).blk,(β sp k ge).off+0,none⟩ ((cc.toList.drop (β sp k ge).off).take cs.length) (fun j u hu=>by
           rw[add_none]
           rw[List.getElem?_take]at hu
           split at hu
           ·rw[List.getElem?_drop]at hu
            unfold World.cell?
            show(match w.heap[(β sp k ge).blk]? with|some (.cells c _ _)=>if(none:Option Nat).isSome then none else c[(β sp k ge).off+0+j]? |_=>none)=some u
            rw[h1];simpa using hu
           ·cases hu)
          rw[←hll]at this
          simp only[Builtin.firstCells]
          rw[hlen]
          exact this
        ·simp[Q.run]at hq
     ·simp[Q.run]at hq
    ·simp[Q.run]at hq
   ·simp[Q.run]at hq
end
end Go.Ev
namespace Go.Ev
open Go
section
variable{P:Program}{B:Base}{st:St}{a:Act}{w:World}{β:Beta}{M:MSet}{o:Oper}{v:T}{ups:List Up}
theorem val_some{x:Option T}{h:Sp→Nat→Ent}{nx:Nat}(hq:(Ev.val x).run h nx=some (.val v ups)):x=some v∧ups= []:=by
 cases x with
 |none=>simp[Ev.val,Q.run]at hq
 |some y=>simp[Ev.val,Q.run]at hq;obtain⟨rfl,rfl⟩:=hq;exact⟨rfl,rfl⟩
theorem call_ok(hρ:RhoOk β st.gens w M st.rho a.eval)(h:HRel B st w β M){c:Call}(ho:o.op= .call c){sh:Nat}{aop:AOp}{d:Nat}(hc:compCall P sh c=some aop)
  (hq:(opQ d st.rho aop).run st.get st.sh.length=some (.val v ups)):OpOk P B st a w β M o v ups:=by
 unfold compCall at hc
 split at hc
 ·simp only[Option.map_eq_some_iff]at hc
  obtain⟨as,_,rfl⟩:=hc
  simp[opQ,Q.run]at hq
 ·split at hc
  ·simp at hc;subst hc
   simp[opQ,Q.run]at hq
  ·cases hc
 ·rename_i hb
  split at hc
  ·rename_i t x h1 h2
   split at hc
   ·rename_i y h3 h4;simp at hc;subst hc;exact lenS_ok hρ h ho hb h1 h2 h3 h4 hq
   ·rename_i e y h3 h4;simp at hc;subst hc;exact lenV_ok hρ h ho hb h1 h2 h3 h4 hq
   ·rename_i e e' y h3 h4;simp at hc;subst hc;exact lenM_ok hρ h ho hb h1 h2 h3 h4 hq
   ·rename_i n e y h3 h4;simp at hc;subst hc
    simp[opQ,Q.run]at hq;obtain⟨rfl,rfl⟩:=hq
    exact lenC_ok h ho hb h1 h2 h3
   ·cases hc
  ·cases hc
 ·rename_i hb
  split at hc
  ·rename_i t u x y h1 h2
   split at hc
   ·rename_i e ud x' y' h3 h4 h5 h6
    have fin: ∀(hud:ud= .string∨ ∃e',ud= .slice e'),(match P.info? e with
     |some i=>(match i.zero with
      |some z=>if i.size=z.cells.size&&i.size != 0&&i.bytes != 0 then some (AOp.app i.size i.bytes x' y' (sh==1) (sh==2))else none
      |none=>none)
     |none=>none)=some aop→OpOk P B st a w β M o v ups:=by
     intro hud hc
     split at hc
     ·rename_i i hi
      split at hc
      ·rename_i z hz
       split at hc
       ·rename_i hcc
        simp at hcc hc;subst hc
        exact app_ok hρ h ho hb h1 h2 h3 h4 hud hi hz hcc.1.1 hcc.1.2 hcc.2 h5 h6 hq
       ·cases hc
      ·cases hc
     ·cases hc
    split at hc
    ·rename_i e';exact fin (.inr ⟨e',rfl⟩) hc
    ·exact fin (.inl rfl) hc
    ·cases hc
   ·cases hc
  ·cases hc
 ·rename_i hb
  simp only[Option.map_eq_some_iff]at hc
  obtain⟨as,h1,rfl⟩:=hc
  exact mm_ok (isMax:=false) hρ h ho hb h1 hq
 ·rename_i hb
  simp only[Option.map_eq_some_iff]at hc
  obtain⟨as,h1,rfl⟩:=hc
  exact mm_ok (isMax:=true) hρ h ho hb h1 hq
 ·cases hc
theorem op_ok(hρ:RhoOk β st.gens w M st.rho a.eval)(h:HRel B st w β M){sh:Nat}{aop:AOp}{d:Nat}(hc:compOp P sh o.op=some aop)
  (hq:(opQ d st.rho aop).run st.get st.sh.length=some (.val v ups)):OpOk P B st a w β M o v ups:=by
 cases hop:o.op with
 |move x=>
  rw[hop]at hc;simp only[compOp,Option.map_eq_some_iff]at hc
  obtain⟨y,h1,rfl⟩:=hc
  simp[opQ,Q.run]at hq;obtain⟨rfl,rfl⟩:=hq
  exact mv_ok hρ h (.inl hop) h1
 |assign x=>
  rw[hop]at hc;simp only[compOp,Option.map_eq_some_iff]at hc
  obtain⟨y,h1,rfl⟩:=hc
  simp[opQ,Q.run]at hq;obtain⟨rfl,rfl⟩:=hq
  exact mv_ok hρ h (.inr hop) h1
 |pick c x y=>
  rw[hop]at hc;simp only[compOp]at hc
  split at hc
  ·rename_i c' x' y' h1 h2 h3
   simp at hc;subst hc
   simp only[opQ]at hq
   split at hq <;> simp[Q.run]at hq
   ·rename_i e;obtain⟨rfl,rfl⟩:=hq;exact pick_ok (bb:=true) hρ h hop h1 h2 h3 e
   ·rename_i e;obtain⟨rfl,rfl⟩:=hq;exact pick_ok (bb:=false) hρ h hop h1 h2 h3 e
  ·cases hc
 |alloc t=>
  rw[hop]at hc;simp only[compOp]at hc
  split at hc
  ·rename_i z hz
   split at hc
   ·rename_i hn;simp at hc;subst hc;exact alloc_ok h hop hz hn hq
   ·cases hc
  ·cases hc
 |box t x=>
  rw[hop]at hc;simp only[compOp,Option.map_eq_some_iff]at hc
  obtain⟨y,h1,rfl⟩:=hc
  exact box_ok hρ h hop h1 hq
 |build t ps=>
  rw[hop]at hc;simp only[compOp]at hc
  split at hc
  ·rename_i z fs hz hu
   split at hc
   ·rename_i places hp
    split at hc
    ·rename_i hn
     simp only[Option.map_eq_some_iff]at hc
     obtain⟨r,h1,rfl⟩:=hc
     exact build_ok hρ h hop hz (.inl ⟨fs,places,hu,hp,h1⟩) hn hq
    ·cases hc
   ·cases hc
  ·rename_i z n e hz hu
   split at hc
   ·rename_i sz hs
    split at hc
    ·rename_i hn
     simp only[Option.map_eq_some_iff]at hc
     obtain⟨r,h1,rfl⟩:=hc
     exact build_ok hρ h hop hz (.inr ⟨n,e,sz,hu,hs,h1⟩) hn hq
    ·cases hc
   ·cases hc
  ·cases hc
 |buildSlice t len ps=>
  rw[hop]at hc;simp only[compOp]at hc
  split at hc
  ·rename_i e hu
   split at hc
   ·rename_i z n r hz hn hr
    split at hc
    ·rename_i hcc
     simp at hcc hc;subst hc
     exact bsl_ok hρ h hop hu hz hn hr hcc.1.1.1 hcc.1.1.2 hcc.1.2 hcc.2 hq
    ·cases hc
   ·cases hc
  ·cases hc
 |load t x=>
  rw[hop]at hc;simp only[compOp]at hc
  split at hc
  ·rename_i y n ag h1 h2 h3;simp at hc;subst hc;exact ld_ok hρ h hop h1 h2 h3 hq
  ·cases hc
 |store t x y=>
  rw[hop]at hc;simp only[compOp]at hc
  split at hc
  ·rename_i y n ag h1 h2 h3;simp at hc;subst hc;exact st_ok hρ h hop h1 h2 h3 hq
  ·cases hc
 |nilCheck x=>
  rw[hop]at hc;simp only[compOp,Option.map_eq_some_iff]at hc
  obtain⟨y,h1,rfl⟩:=hc
  exact nck_ok hρ h hop h1 hq
 |binOp op t x y t'=>
  rw[hop]at hc;simp only[compOp]at hc
  split at hc
  ·rename_i x' y' h1 h2
   split at hc
   ·rename_i hk
    simp at hc;subst hc
    obtain⟨e1,rfl⟩:=val_some hq
    simp only[Option.map_eq_some_iff]at e1
    obtain⟨r,e2,rfl⟩:=e1
    exact eq_ok (neg:=false) hρ h hop h1 h2 (by have:=ck_und hk;simp[ekOf,this]) (by simp) e2
   ·rename_i hk
    simp at hc;subst hc
    obtain⟨e1,rfl⟩:=val_some hq
    simp only[Option.map_eq_some_iff]at e1
    obtain⟨r,e2,rfl⟩:=e1
    exact eq_ok (neg:=true) hρ h hop h1 h2 (by have:=ck_und hk;simp[ekOf,this]) (by simp) e2
   ·simp at hc;subst hc
    obtain⟨e1,rfl⟩:=val_some hq
    exact bin_ok hρ h hop h1 h2 e1
   ·rename_i hk
    simp only[Option.map_eq_some_iff]at hc
    obtain⟨k,h3,rfl⟩:=hc
    obtain⟨e1,rfl⟩:=val_some hq
    simp only[Option.map_eq_some_iff]at e1
    obtain⟨r,e2,rfl⟩:=e1
    refine eq_ok (neg:=false) hρ h hop h1 h2 h3 ?_ e2
    have hcs:=ek_cases h3
    refine⟨fun e=> ?_,fun e=> ?_⟩ <;> subst e <;> simp only at hcs <;> rw[hcs]at hk <;> simp at hk
   ·rename_i hk
    simp only[Option.map_eq_some_iff]at hc
    obtain⟨k,h3,rfl⟩:=hc
    obtain⟨e1,rfl⟩:=val_some hq
    simp only[Option.map_eq_some_iff]at e1
    obtain⟨r,e2,rfl⟩:=e1
    refine eq_ok (neg:=true) hρ h hop h1 h2 h3 ?_ e2
    have hcs:=ek_cases h3
    refine⟨fun e=> ?_,fun e=> ?_⟩ <;> subst e <;> simp only at hcs <;> rw[hcs]at hk <;> simp at hk
   ·cases hc
  ·cases hc
 |unOp op t x=>
  rw[hop]at hc;simp only[compOp,Option.map_eq_some_iff]at hc
  obtain⟨y,h1,rfl⟩:=hc
  obtain⟨e1,rfl⟩:=val_some hq
  exact un_ok hρ h hop h1 e1
 |convert s t x=>
  rw[hop]at hc;simp only[compOp]at hc
  split at hc
  ·rename_i ks k y h1 h2 h3
   simp at hc;subst hc
   simp only[opQ]at hq
   split at hq
   ·rename_i k' n e
    simp[Q.run]at hq;obtain⟨rfl,rfl⟩:=hq
    exact cvi_ok hρ h hop h3 ⟨ks,h1⟩ h2 e
   ·simp[Q.run]at hq
  ·cases hc
 |makeFunc fn first cap=>
  rw[hop]at hc
  cases fn <;> simp only[compOp]at hc <;> try (cases hc;done)
  split at hc
  ·rename_i f as cs h1 h2
   simp at hc;subst hc
   simp[opQ,Q.run]at hq;obtain⟨rfl,rfl⟩:=hq
   exact mkfn_ok hρ h hop h1 h2
  ·cases hc
 |makeMap t r=>
  rw[hop]at hc
  cases r <;> simp only[compOp]at hc
  ·simp at hc;subst hc;exact mkmap_ok h hop hq
  ·cases hc
 |makeSlice t l c=>
  rw[hop]at hc;simp only[compOp]at hc
  split at hc
  ·rename_i e hu
   split at hc
   ·rename_i i z y h1 h2 h3
    split at hc
    ·rename_i hcc
     simp at hcc hc;subst hc
     exact mksl_ok hρ h hop hu h1 h2 h3 hcc.1.1.2 hcc.1.1.1 hcc.1.2 hcc.2 hq
    ·cases hc
   ·cases hc
  ·cases hc
 |slice t x l hh m=>
  rw[hop]at hc;simp only[compOp]at hc
  split at hc
  ·rename_i y l' h' h1 h2 h3 h4 h5
   simp at hc;subst hc
   have hm:m=none:=by cases m <;> simp[opdO]at h5 ⊢
   subst hm
   exact slS_ok hρ h hop h2 h3 h4 h1 hq
  ·rename_i e y l' h' m' h1 h2 h3 h4 h5
   split at hc
   ·rename_i n hn
    split at hc
    ·rename_i hcc
     simp at hcc hc;subst hc
     refine slV_ok hρ h hop h2 h3 h4 h5 h1 hn hcc.1 ?_ hq
     intro hm
     rcases hcc.2 with e1|e1
     ·cases m with
      |none=>simp at hm
      |some mm=>simp only[opdO,Option.map_eq_some_iff]at h5;obtain⟨_,_,rfl⟩:=h5;simp at e1
     ·cases hh with
      |none=>simp[opdO]at h4;subst h4;simp at e1
      |some _=>rfl
    ·cases hc
   ·cases hc
  ·cases hc
 |fieldAddr s x f=>
  rw[hop]at hc;simp only[compOp]at hc
  split at hc
  ·rename_i fs y h1 h2
   split at hc
   ·rename_i fd h3
    split at hc
    ·rename_i n h4
     split at hc
     ·rename_i h5;simp at h5 hc;subst hc;exact fa_ok hρ h hop h2 h1 h3 h4 h5 hq
     ·cases hc
    ·cases hc
   ·cases hc
  ·cases hc
 |field s x f=>
  rw[hop]at hc;simp only[compOp]at hc
  split at hc
  ·rename_i fs y h1 h2
   split at hc
   ·rename_i fd h3
    split at hc
    ·rename_i n ag h4 h5
     simp at hc;subst hc;exact fld_ok hρ h hop h2 h1 h3 h4 h5 hq
    ·cases hc
   ·cases hc
  ·cases hc
 |indexAddr t x j=>
  rw[hop]at hc;simp only[compOp]at hc
  split at hc
  ·rename_i e y j' h1 h2 h3
   split at hc
   ·rename_i n hn
    split at hc
    ·simp at hc;subst hc;exact ia_ok hρ h hop h2 h3 h1 hn hq
    ·cases hc
   ·cases hc
  ·rename_i len e y j' h1 h2 h3
   split at hc
   ·rename_i n hn
    split at hc
    ·simp at hc;subst hc;exact iaA_ok hρ h hop h2 h3 h1 hn hq
    ·cases hc
   ·cases hc
  ·cases hc
 |index t x j=>
  rw[hop]at hc;simp only[compOp]at hc
  split at hc
  ·rename_i y j' h1 h2 h3;simp at hc;subst hc;exact ixS_ok hρ h hop h2 h3 h1 hq
  ·rename_i len e y j' h1 h2 h3
   split at hc
   ·rename_i n ag hn ha;simp at hc;subst hc;exact ixA_ok hρ h hop h2 h3 h1 hn ha hq
   ·cases hc
  ·cases hc
 |lookup t m k ok=>
  rw[hop]at hc;simp only[compOp]at hc
  split at hc
  ·rename_i kt et m' k' h1 h2 h3
   split at hc
   ·rename_i ek z h4 h5;simp at hc;subst hc;exact lk_ok hρ h hop h2 h3 h1 h4 h5 hq
   ·cases hc
  ·cases hc
 |mapUpdate t m k x=>
  rw[hop]at hc;simp only[compOp]at hc
  split at hc
  ·rename_i kt et m' k' x' h1 h2 h3 h4
   simp only[Option.map_eq_some_iff]at hc
   obtain⟨ek,h5,rfl⟩:=hc
   exact mu_ok hρ h hop h2 h3 h4 h1 h5 hq
  ·cases hc
 |extract x j=>
  rw[hop]at hc;simp only[compOp,Option.map_eq_some_iff]at hc
  obtain⟨y,h1,rfl⟩:=hc
  simp only[opQ]at hq
  split at hq
  ·rename_i vs e
   obtain⟨e1,rfl⟩:=val_some hq
   exact ext_ok hρ h hop h1 e e1
  ·simp[Q.run]at hq
 |call c=>rw[hop]at hc;simp only[compOp]at hc;exact call_ok hρ h hop hc hq
 |_=>rw[hop]at hc;simp[compOp]at hc
end
end Go.Ev
