/- A tree evaluator over the model, proved against it (part C): where it answers, the call returns that answer. Conditions: none beyond its theorems' own. -/
import Derived.Test.YtfenhjpkomldcaaGreatEvB
import Derived.Laws.Tables
set_option linter.unusedSimpArgs false
set_option linter.unusedVariables false
namespace Go.Ev
open Go
theorem nC{P:Program}{t:TypeId}{z:T}(h:jT P t=some z): ∃i zv,P.info? t=some i∧i.zero=some zv∧q9 zv=some z:=by
 unfold jT at h
 cases hi:P.info? t with
 |none=>simp[hi]at h
 |some i=>
  simp only[hi,Option.bind_some]at h
  cases hz:i.zero with
  |none=>simp[hz]at h
  |some zv=>simp only[hz,Option.bind_some]at h;exact⟨i,zv,rfl,hz,h⟩
theorem tC{P:Program}{t:TypeId}{z:T}(h:jT P t=some z)(w:World): ∃zv,(zeroValue t).run P w= .ok zv w∧ ∀w M,PRel w M z zv:=by
 obtain⟨i,zv,h1,h2,h3⟩:=nC h
 exact⟨zv,by simp[zeroValue,typeInfo,h1,h2],fun w M=>iS h3⟩
theorem kr{β:aS}{G:Sp→Nat→Nat}{w:World}{M:aI}{t:T}{cv:Value}(h:au β G w M t cv)(hn:noTup t=true):av β G w M (cellsOf t) cv.cells.toList∧(cellsOf t).all single=true:=by
 cases t
 case agg cs=>
  simp only[au]at h
  obtain⟨a,rfl,h1,h2⟩:=h
  exact⟨h1,h2⟩
 case tup cs=>simp[noTup]at hn
 all_goals
  have h':=h
  simp only[au,PRel]at h
  refine⟨?_,rfl⟩
  simp only[cellsOf,av]
  refine⟨cv,[], ?_,h',rfl⟩
  first
   |(subst h;rfl)
   |(obtain⟨_,rfl,_⟩:=h;rfl)
   |(obtain⟨_,_,rfl,_⟩:=h;rfl)
   |(obtain⟨_,_,_,rfl,_⟩:=h;rfl)
   |(obtain⟨_,_,_,_,rfl,_⟩:=h;rfl)
   |(obtain⟨_,rfl⟩:=h;rfl)
theorem nD{w:World}{M:aI}{t:T}{cv:Value}(h:PRel w M t cv)(hn:noTup t=true):PList w M (cellsOf t) cv.cells.toList∧(cellsOf t).all single=true:=by
 cases t
 case agg cs=>
  simp only[PRel]at h
  obtain⟨a,rfl,h1,h2⟩:=h
  exact⟨h1,h2⟩
 case tup cs=>simp[noTup]at hn
 case isl=>simp only[PRel]at h
 case ptr=>simp only[PRel]at h
 case mp=>simp only[PRel]at h
 all_goals
  have h':=h
  simp only[PRel]at h
  refine⟨?_,rfl⟩
  simp only[cellsOf,PList]
  refine⟨cv,[], ?_,h',rfl⟩
  first
   |(subst h;rfl)
   |(obtain⟨_,rfl,_⟩:=h;rfl)
   |(obtain⟨_,_,rfl,_⟩:=h;rfl)
   |(obtain⟨_,_,_,rfl,_⟩:=h;rfl)
   |(obtain⟨_,_,_,_,rfl,_⟩:=h;rfl)
theorem cz{α:Type}: ∀(cs:List α) (off:Nat) (vs:List α),(splice cs off vs).length=cs.length
 |cs,0,[]=>by cases cs <;> simp[splice]
 | [],0,v::vs=>by simp[splice]
 |c::cs,0,v::vs=>by simp[splice,cz cs 0 vs]
 | [],off+1,vs=>by simp[splice]
 |c::cs,off+1,vs=>by simp[splice,cz cs off vs]
theorem fx{α:Type}: ∀(cs:List α) (off:Nat),splice cs off []=cs
 |cs,0=>by cases cs <;> simp[splice]
 | [],off+1=>by simp[splice]
 |c::cs,off+1=>by simp[splice,fx cs off]
theorem pN{α:Type}: ∀(cs:List α) (off:Nat) (v:α) (vs:List α),splice (cs.set off v) (off+1) vs=splice cs off (v::vs)
 | [],off,v,vs=>by cases off <;> simp[splice]
 |c::cs,0,v,vs=>by simp[splice]
 |c::cs,off+1,v,vs=>by simp[splice,pN cs off v vs]
theorem cW{α:Type}: ∀(cs:List α) (off:Nat) (vs:List α) (j:Nat),(splice cs off vs)[j]? =if off≤j∧j<off+vs.length∧j<cs.length then vs[j-off]? else cs[j]?
 |cs,0,[],j=>by rw[fx];simp
 | [],0,v::vs,j=>by simp[splice]
 |c::cs,0,v::vs,0=>by simp[splice]
 |c::cs,0,v::vs,j+1=>by simp[splice,cW cs 0 vs j]
 | [],off+1,vs,j=>by simp[splice]
 |c::cs,off+1,vs,0=>by simp[splice]
 |c::cs,off+1,vs,j+1=>by
  simp only[splice,List.getElem?_cons_succ,cW cs off vs j,List.length_cons]
  have e:j+1-(off+1)=j-off:=by omega
  rw[e]
  by_cases hc:off≤j∧j<off+vs.length∧j<cs.length
  ·rw[if_pos hc,if_pos (by omega)]
  ·rw[if_neg hc,if_neg (by omega)]
theorem av.splice{β:aS}{G:Sp→Nat→Nat}{w:World}{M:aI}: ∀{cs:List T} {m8:List Value} {off:Nat} {vs:List T} {zq:List Value},av β G w M cs m8→av β G w M vs zq→av β G w M (splice cs off vs) (splice m8 off zq)
 |cs,m8,0,[],zq,h1,h2=>by simp only[av]at h2;subst h2;rw[fx,fx];exact h1
 | [],m8,0,v::vs,zq,h1,h2=>by simp only[av]at h1;subst h1;obtain⟨u,us,rfl,_⟩:=h2;simp[Ev.splice,av]
 |c::cs,m8,0,v::vs,zq,h1,h2=>by
  simp only[av]at h1 h2
  obtain⟨a,as,rfl,p1,p2⟩:=h1
  obtain⟨u,us,rfl,q1,q2⟩:=h2
  simp only[Ev.splice,av]
  exact⟨u,_,rfl,q1,av.splice p2 q2⟩
 | [],m8,off+1,vs,zq,h1,h2=>by simp only[av]at h1;subst h1;simp[Ev.splice,av]
 |c::cs,m8,off+1,vs,zq,h1,h2=>by
  simp only[av]at h1
  obtain⟨a,as,rfl,p1,p2⟩:=h1
  simp only[Ev.splice,av]
  exact⟨a,_,rfl,p1,av.splice p2 h2⟩
theorem PList.splice{w:World}{M:aI}: ∀{cs:List T} {m8:List Value} {off:Nat} {vs:List T} {zq:List Value},PList w M cs m8→PList w M vs zq→PList w M (splice cs off vs) (splice m8 off zq)
 |cs,m8,0,[],zq,h1,h2=>by simp only[PList]at h2;subst h2;rw[fx,fx];exact h1
 | [],m8,0,v::vs,zq,h1,h2=>by simp only[PList]at h1;subst h1;obtain⟨u,us,rfl,_⟩:=h2;simp[Ev.splice,PList]
 |c::cs,m8,0,v::vs,zq,h1,h2=>by
  simp only[PList]at h1 h2
  obtain⟨a,as,rfl,p1,p2⟩:=h1
  obtain⟨u,us,rfl,q1,q2⟩:=h2
  simp only[Ev.splice,PList]
  exact⟨u,_,rfl,q1,PList.splice p2 q2⟩
 | [],m8,off+1,vs,zq,h1,h2=>by simp only[PList]at h1;subst h1;simp[Ev.splice,PList]
 |c::cs,m8,off+1,vs,zq,h1,h2=>by
  simp only[PList]at h1
  obtain⟨a,as,rfl,p1,p2⟩:=h1
  simp only[Ev.splice,PList]
  exact⟨a,_,rfl,p1,PList.splice p2 h2⟩
theorem ku{p:T→Bool}{cs vs:List T}{off:Nat}(h1:cs.all p=true)(h2:vs.all p=true):(splice cs off vs).all p=true:=by
 rw[List.all_eq_true]at*
 intro x hx
 obtain⟨j,hj⟩:=List.getElem?_of_mem hx
 rw[cW]at hj
 split at hj
 ·exact h2 x (List.mem_of_getElem? hj)
 ·exact h1 x (List.mem_of_getElem? hj)
theorem oR(off:Nat): ∀(vs:List Value) (s:Nat) (cells:Array Value),((vs.zipIdx s).foldl (fun(cs:Array Value) (p:Value×Nat)=>cs.setIfInBounds (off+p.2) p.1) cells).toList=splice cells.toList (off+s) vs
 | [],s,cells=>by simp[fx]
 |v::vs,s,cells=>by
  simp only[List.zipIdx_cons,List.foldl_cons]
  rw[oR off vs (s+1),Array.toList_setIfInBounds,←Nat.add_assoc,pN]
theorem Bh{β:aS}{G:Sp→Nat→Nat}{w:World}{M:aI}{place:Nat→Option (Nat×Nat)}: ∀(parts:List (Nat×Value)) (ps:List (Nat×List T)) (zs:List T) (zc:Array Value) (rs:List T),
  av β G w M zs zc.toList→zs.all single=true→parts.length=ps.length→(∀(j i:Nat) (cv:Value) (off:Nat) (ts:List T),parts[j]? =some (i,cv)→ps[j]? =some (off,ts)→place i=some (off,ts.length)∧av β G w M ts cv.cells.toList∧ts.all single=true)→
  aF zs ps=some rs→ ∃rc,Instr.fill place zc parts=some rc∧av β G w M rs rc.toList∧rs.all single=true
 | [],ps,zs,zc,rs,hz,hs,hlen,hp,hf=>by
   cases ps with
   |nil=>simp[aF]at hf;subst hf;exact⟨zc,by simp[Instr.fill],hz,hs⟩
   |cons p ps=>simp at hlen
 |(i,cv)::parts,ps,zs,zc,rs,hz,hs,hlen,hp,hf=>by
  cases ps with
  |nil=>simp at hlen
  |cons p ps=>
   obtain⟨off,ts⟩:=p
   simp only[aF]at hf
   split at hf
   ·rename_i hle
    obtain⟨p1,p2,p3⟩:=hp 0 i cv off ts rfl rfl
    have ny:=av.length _ _ p2
    have wu:=av.length _ _ hz
    have kW:cv.cells.size=ts.length:=by rw[ny];simp
    have Nt:zc.size=zs.length:=by rw[wu];simp
    have hc: ¬((cv.cells.size≠ts.length||off+cv.cells.size>zc.size)=true):=by
     rw[kW,Nt];simp;omega
    have e:(cv.cells.zipIdx.foldl (fun(cs:Array Value) (p:Value×Nat)=>cs.setIfInBounds (off+p.2) p.1) zc).toList=splice zc.toList off cv.cells.toList:=by
     have:=oR off cv.cells.toList 0 zc
     rw[←Array.foldl_toList,Array.toList_zipIdx];simpa using this
    obtain⟨rc,r1,r2,r3⟩:=Bh parts ps (splice zs off ts) (cv.cells.zipIdx.foldl (fun(cs:Array Value) (p:Value×Nat)=>cs.setIfInBounds (off+p.2) p.1) zc) rs
     (by rw[e];exact av.splice hz p2) (ku hs p3) (by simpa using hlen) (fun j i cv off ts a b=>hp (j+1) i cv off ts (by simpa using a) (by simpa using b)) hf
    refine⟨rc, ?_,r2,r3⟩
    simp only[Instr.fill,p1]
    rw[if_neg hc]
    exact r1
   ·cases hf
section
variable{P:Program}{B:dP}{st:St}{a:Act}{w:World}{β:aS}{M:aI}{o:Oper}{v:T}{ups:List Up}
theorem nE{fb:List (Nat×Nat)}: ∀{ps:List (Nat×Operand)} {r:List (Nat×Nat×aZ)},placesOf fb ps=some r→ps.length=r.length∧ ∀(j i:Nat) (x:Operand) (off n:Nat) (y:aZ),ps[j]? =some (i,x)→r[j]? =some (off,n,y)→fb[i]? =some (off,n)∧dC x=some y
 | [],r,h=>by simp[placesOf]at h;subst h;simp
 |(i0,x0)::ps,r,h=>by
  simp only[placesOf]at h
  split at h
  ·rename_i p y r' h1 h2 h3
   simp at h;subst h
   obtain⟨a1,a2⟩:=nE h3
   refine⟨by simp[a1],fun j i x off n y' b1 b2=> ?_⟩
   cases j with
   |zero=>simp at b1 b2;obtain⟨rfl,rfl⟩:=b1;obtain⟨rfl,rfl,rfl⟩:=b2;exact⟨h1,h2⟩
   |succ j=>exact a2 j i x off n y' (by simpa using b1) (by simpa using b2)
  ·cases h
theorem mH{sz:Nat}: ∀{ps:List (Nat×Operand)} {r:List (Nat×Nat×aZ)},iI sz ps=some r→ps.length=r.length∧ ∀(j i:Nat) (x:Operand) (off n:Nat) (y:aZ),ps[j]? =some (i,x)→r[j]? =some (off,n,y)→(off=i*sz∧n=sz)∧dC x=some y
 | [],r,h=>by simp[iI]at h;subst h;simp
 |(i0,x0)::ps,r,h=>by
  simp only[iI]at h
  split at h
  ·rename_i y r' h2 h3
   simp at h;subst h
   obtain⟨a1,a2⟩:=mH h3
   refine⟨by simp[a1],fun j i x off n y' b1 b2=> ?_⟩
   cases j with
   |zero=>simp at b1 b2;obtain⟨rfl,rfl⟩:=b1;obtain⟨rfl,rfl,rfl⟩:=b2;exact⟨⟨rfl,rfl⟩,h2⟩
   |succ j=>exact a2 j i x off n y' (by simpa using b1) (by simpa using b2)
  ·cases h
variable(bZ:iw β st.gens w M st.rho a.eval)(h:bf B st w β M)
include bZ h
theorem wT{d nx:Nat}{t:TypeId}{ps:Array (Nat×Operand)}{z:T}{r:List (Nat×Nat×aZ)}(ho:o.op= .build t ps)(hz:jT P t=some z)
  (S9:(∃fs fb,P.underlying t=some (.struct fs)∧fs.toList.mapM (fun f=>(P.info? f.type).map fun i=>(f.offset,i.size))=some fb∧placesOf fb ps.toList=some r)∨(∃n e sz,P.underlying t=some (.array n e)∧dt P e=some sz∧iI sz ps.toList=some r))
  (O6:noTup z=true) (hq:(bC d st.rho (.build (cellsOf z) r)).run st.get nx=some (.val v ups)):dh P B st a w β M o v ups:=by
 obtain⟨i,zv,z1,z2,z3⟩:=nC hz
 have Yt:au β st.gens w M z zv:=PRel.toV _ _ _ _ (iS z3)
 obtain⟨zc1,zc2⟩:=kr Yt O6
 simp only[bC]at hq
 split at hq
 ·rename_i aU
  cases hf:aF (cellsOf z) (r.map fun p=>(p.1,cellsOf (st.rho p.2.2)))with
  |none=>simp[hf,Ev.val,Q.run]at hq
  |some rs=>
   simp[hf,Ev.val,Q.run]at hq;obtain⟨rfl,rfl⟩:=hq
   have parts: ∃place:Nat→Option (Nat×Nat),(∀rc,Instr.fill place zv.cells (ps.toList.map fun p=>(p.1,a.eval p.2))=some rc→P.built t (ps.map fun(i,x)=>(i,a.eval x)).toList=some rc)∧ps.toList.length=r.length∧
     ∀(j i:Nat) (x:Operand) (off n:Nat) (y:aZ),ps.toList[j]? =some (i,x)→r[j]? =some (off,n,y)→place i=some (off,n)∧dC x=some y:=by
    rcases S9 with⟨fs,fb,u1,u2,u3⟩|⟨n,e,sz,u1,u2,u3⟩
    ·obtain⟨g1,g2⟩:=nE u3
     refine⟨fun i=>fb[i]?,fun rc Yu=> ?_,g1,g2⟩
     simp only[Program.built,z1,z2,u1,u2,Array.toList_map]
     have:(fun x:Nat=>fb.toArray[x]?)=fun i=>fb[i]? :=by funext i;simp
     rw[this];exact Yu
    ·obtain⟨g1,g2⟩:=mH u3
     have: ∃ie,P.info? e=some ie∧ie.size=sz:=by
      unfold dt at u2
      cases he:P.info? e with
      |none=>simp[he]at u2
      |some ie=>simp[he]at u2;exact⟨ie,rfl,u2⟩
     obtain⟨ie,v1,v2⟩:=this
     refine⟨fun i=>some (i*ie.size,ie.size),fun rc Yu=> ?_,g1,fun j i x off n y b1 b2=> ?_⟩
     ·simp only[Program.built,z1,z2,u1,v1,Array.toList_map];exact Yu
     ·obtain⟨⟨rfl,rfl⟩,c⟩:=g2 j i x off n y b1 b2
      exact⟨by rw[v2],c⟩
   obtain⟨place,q1,q2,q3⟩:=parts
   obtain⟨rc,r1,r2,r3⟩:=Bh (place:=place) (ps.toList.map fun p=>(p.1,a.eval p.2)) _ (cellsOf z) zv.cells rs zc1 zc2 (by simp[q2]) (by
    intro j i cv off ts b1 b2
    rw[List.getElem?_map,Option.map_eq_some_iff]at b1 b2
    obtain⟨⟨i',x⟩,c1,c2⟩:=b1
    obtain⟨⟨Yv,n,y⟩,c3,c4⟩:=b2
    simp at c2 c4
    obtain⟨rfl,rfl⟩:=c2
    obtain⟨rfl,rfl⟩:=c4
    obtain⟨e1,e2⟩:=q3 j i' x Yv n y c1 c3
    have hv:=bZ x y e2
    have Ft:=(List.all_eq_true.1 aU) _ (List.mem_of_getElem? c3)
    simp at Ft
    obtain⟨k1,k2⟩:=kr hv Ft.2
    exact⟨by rw[e1,Ft.1],k1,k2⟩) hf
   refine aT h (cv:= .agg rc) ?_ (by simp only[au];exact⟨rc,rfl,r2,r3⟩)
   have:=run_build (P:=P) w t (ps.map fun(i,x)=>(i,a.eval x)) rc (q1 rc r1)
   simp[execOp,ho,this]
 ·simp[Q.run]at hq
end
end Go.Ev
namespace Go.Ev
open Go
theorem gq{st:St}{d:Nat}{sh:Bool}{ob:Ob}{f:Sp→Nat→Nat→T}{v:T}{ups:List Up}(h:(gP d sh ob f).run st.get st.sh.length=some (.val v ups)):
  ∃sp k g,v=f sp k g∧ups= [(sp,k,⟨g,ob⟩)]∧st.gens sp k<g∧(sp= .S→sh=true):=by
 unfold gP at h
 split at h
 ·simp[Q.run]at h
  obtain⟨rfl,rfl⟩:=h
  refine⟨.S,st.sh.length,1,rfl,rfl, ?_,fun _=>by assumption⟩
  show(st.get .S st.sh.length).g<1
  simp[St.get,tz (Nat.le_refl _),gO]
 ·simp[Q.run]at h
  obtain⟨rfl,rfl⟩:=h
  exact⟨.L,d,_,rfl,rfl,Nat.lt_succ_self _,fun e=>by cases e⟩
theorem nF{α:Type}(z:List α): ∀n,(repl z n).length=n*z.length
 |0=>by simp[repl]
 |n+1=>by simp[repl,nF z n,Nat.add_mul];omega
theorem wU{α:Type}(z:List α)(hz:z≠ []): ∀(n j:Nat),j<n*z.length→(repl z n)[j]? =z[j%z.length]?
 |0,j,h=>by simp at h
 |n+1,j,h=>by
  have Fu:0<z.length:=List.length_pos_iff.2 hz
  simp only[repl]
  by_cases hj:j<z.length
  ·rw[List.getElem?_append_left hj,Nat.mod_eq_of_lt hj]
  ·rw[List.getElem?_append_right (by omega),wU z hz n (j-z.length) (by rw[Nat.add_mul]at h;omega)]
   rw[←Nat.mod_eq_sub_mod (by omega)]
theorem rq(z:Array Value)(n:Nat)(hz:z.size≠0):((Array.range (n*z.size)).map (fun i=>z[i%z.size]!)).toList=repl z.toList n:=by
 apply List.ext_getElem?
 intro j
 have hz':z.toList≠ []:=by intro e;apply hz;have:=congrArg List.length e;simpa using this
 by_cases hj:j<n*z.size
 ·rw[wU z.toList hz' n j (by simpa using hj)]
  have hm:j%z.size<z.size:=Nat.mod_lt _ (by omega)
  simp[hj,hm]
 ·have h1:(repl z.toList n)[j]? =none:=by rw[List.getElem?_eq_none];rw[nF];simp;omega
  rw[h1];simp;omega
theorem PList.repl{w:World}{M:aI}{z:List T}{zv:List Value}(h:PList w M z zv): ∀n,PList w M (Ev.repl z n) (Ev.repl zv n)
 |0=>by simp[Ev.repl,PList]
 |n+1=>by simp only[Ev.repl];exact PList.append h (PList.repl h n)
theorem rv{z:List T}(h:z.all single=true): ∀n,(repl z n).all single=true
 |0=>by simp[repl]
 |n+1=>by simp only[repl,List.all_append,Bool.and_eq_true];exact⟨h,rv h n⟩
theorem sZ{P:Program}{w:World}{t e:TypeId}{i:TypeInfo}{zv:Value}{k:IntKind}{m:Int}(ht:P.underlying t=some (.slice e))(hi:P.info? e=some i)(hz:i.zero=some zv)(hm:0≤m)(Fv:IntKind.i64.wrap m=m)
  (hb:(i.bytes:Int)*m≤281474976710656) (eo:m.toNat*i.bytes≤140737488355328):
  (Instr.makeSlice t (.int k m) (.int k m)).run P w= .ok (.slice (some ⟨w.heap.size,0,none⟩) m.toNat m.toNat) (w.alloc (.cells ((Array.range (m.toNat*i.size)).map (fun j=>zv.cells[j%zv.cells.size]!)) e)):=by
 have h1: ¬(m<0):=by omega
 have h2: ¬(281474976710656<(i.bytes:Int)*m):=by omega
 have h3: ¬(140737488355328<m.toNat*i.bytes):=by omega
 have h4: ¬(m.toNat*i.bytes>roomBytes):=by unfold roomBytes;omega
 simp only[Instr.makeSlice,Sem.run_bind,run_underlying ht,Result.andThen_ok,asInt,asIntOf,Sem.run_pure,typeInfo,run_program,hi,Fv]
 simp only[h1,decide_false,Bool.false_or,Int.lt_irrefl,gt_iff_lt,Bool.or_false]
 rw[if_neg (by simp;omega)]
 simp only[Sem.run_bind,askRoom,if_neg h4,Sem.run_pure,Result.andThen_ok,sizeOf,typeInfo,run_program,hi]
 by_cases hn:m.toNat*i.size=0
 ·rw[if_pos hn,hn]
  have:Array.range 0= #[]:=rfl
  simp[newRow,this]
 ·rw[if_neg hn]
  simp[newRow,zeroValue,typeInfo,hi,hz]
section
variable{P:Program}{B:dP}{st:St}{a:Act}{w:World}{β:aS}{M:aI}{o:Oper}{v:T}{ups:List Up}
theorem oS(h:bf B st w β M)(el:TypeId)(c:Array Value)(cs:List T)(bx:Bool)(sp:Sp)(k g:Nat)(hg:st.gens sp k<g)
  (hl:gR sp bx β st.gens w M cs (c.toList.take cs.length)) (hs:cs.all single=true) (hle:cs.length≤c.size):
  bf B (st.up (sp,k,⟨g,.cells cs 0 bx⟩)) (w.alloc (.cells c el)) (fg β sp k g ⟨w.heap.size,0,c.size⟩) (fun b x=>M b x∨b=w.heap.size)∧
  Tr st w β M (st.up (sp,k,⟨g,.cells cs 0 bx⟩)) (w.alloc (.cells c el)) (fg β sp k g ⟨w.heap.size,0,c.size⟩) (fun b x=>M b x∨b=w.heap.size):=by
 have hb: ∀cu k' g',g'≤st.gens cu k'→fg β sp k g ⟨w.heap.size,0,c.size⟩ cu k' g'=β cu k' g':=by
  intro cu k' g' ta
  refine nv _ _ _ _ _ ?_
  rintro⟨rfl,rfl,rfl⟩
  omega
 have hG: ∀cu k',st.gens cu k'≤(st.up (sp,k,⟨g,.cells cs 0 bx⟩)).gens cu k':=by
  intro cu k'
  rw[du]
  split
  ·rename_i e;obtain⟨rfl,rfl⟩:=e;exact Nat.le_of_lt hg
  ·exact Nat.le_refl _
 refine Fo h sp k g hg (.cells c el) c.size (.cells cs 0 bx) ?_
 unfold dg
 simp only[bN]
 refine⟨c,el,(0,0),by rw[heap_alloc,if_pos rfl],by omega,hle,rfl, ?_,fun j _ _=>Or.inr (by trivial),hs,Nat.zero_le _⟩
 simp only[List.drop_zero]
 exact gR.mono (kj w M _) hb hG hl
theorem uS{o':Obj}{sp:Sp}{k g:Nat}{ob:Ob}{ext:Nat}{cv:Value}{v:T}(hr:(execOp a.eval o).run P w= .ok (.value cv) (w.alloc o'))
  (hn:bf B (st.up (sp,k,⟨g,ob⟩)) (w.alloc o') (fg β sp k g ⟨w.heap.size,0,ext⟩) (fun b x=>M b x∨b=w.heap.size)∧
    Tr st w β M (st.up (sp,k,⟨g,ob⟩)) (w.alloc o') (fg β sp k g ⟨w.heap.size,0,ext⟩) (fun b x=>M b x∨b=w.heap.size))
  (hv:au (fg β sp k g ⟨w.heap.size,0,ext⟩) (st.up (sp,k,⟨g,ob⟩)).gens (w.alloc o') (fun b x=>M b x∨b=w.heap.size) v cv):dh P B st a w β M o v [(sp,k,⟨g,ob⟩)]:=
 ⟨_,cv,_,_,_,hr,.inl rfl,hn.1,hn.2,by show _≤(w.heap.push o').size;simp,hv⟩
theorem Tr.less{M':aI}(hs: ∀b x,M' b x→M b x):Tr st w β M st w β M':=⟨cM hs,fun _ _ _ _=>rfl,fun _ _=>Nat.le_refl _⟩
theorem dh.less{M':aI}(hs: ∀b x,M' b x→M b x)(h:dh P B st a w β M' o v ups):dh P B st a w β M o v ups:=by
 obtain⟨nx,cv,w',be,M2,h1,h2,h3,h4,h5,h6⟩:=h
 exact⟨nx,cv,w',be,M2,h1,h2,h3,(Tr.less hs).trans h4 (Nat.le_refl _),h5,h6⟩
theorem nG{l:List Value}{n:Nat}(h:n=l.length):l.take n=l:=by subst h;simp
variable(bZ:iw β st.gens w M st.rho a.eval)(h:bf B st w β M)
include h
theorem Fw{d:Nat}{sh:Bool}{t:TypeId}{z:T}(ho:o.op= .alloc t)(hz:jT P t=some z)(O6:noTup z=true)
  (hq:(bC d st.rho (.alloc (cellsOf z) sh)).run st.get st.sh.length=some (.val v ups)):dh P B st a w β M o v ups:=by
 simp only[bC]at hq
 obtain⟨sp,k,g,rfl,rfl,hg,Ta⟩:=gq hq
 obtain⟨zv,z1,z2⟩:=tC hz w
 obtain⟨c1,c2⟩:=nD (z2 w M) O6
 have hlen:=PList.length _ _ c1
 refine uS (cv:= .pointer (some ⟨w.heap.size,0,none⟩)) ?_ (oS h t zv.cells (cellsOf z) true sp k g hg (by rw[nG hlen];exact gR.ofP c1) c2 (by rw[hlen];simp)) ?_
 ·simp[execOp,ho,Instr.alloc,z1,newVar,newRow]
 ·simp[au,bN,du]
include bZ
theorem O7{d:Nat}{sh:Bool}{t:TypeId}{x:Operand}{x':aZ}(ho:o.op= .box t x)(hx:dC x=some x')
  (hq:(bC d st.rho (.box x' sh)).run st.get st.sh.length=some (.val v ups)):dh P B st a w β M o v ups:=by
 have vx:=bZ x x' hx
 simp only[bC]at hq
 split at hq
 ·simp[Q.run]at hq
 ·rename_i O8
  simp at O8
  have fin: ∀(M':aI) (t':T),bf B st w β M'→noTup t'=true→ ∀sp k g,st.gens sp k<g→(match sp with| .L=>au β st.gens w M' t' (a.eval x)| .S=>ko true β st.gens w M' t' (a.eval x))→dh P B st a w β M' o (.ptr sp k g 0) [(sp,k,⟨g,.cells (cellsOf t') 0 true⟩)]:=by
   intro M' t' h' O8 sp k g hg ht
   have htV:au β st.gens w M' t' (a.eval x):=by
    cases sp
    ·exact ht
    ·exact ko.toV ht
   obtain⟨c1,c2⟩:=kr htV O8
   have hlen:=av.length _ _ c1
   refine uS (cv:= .pointer (some ⟨w.heap.size,0,none⟩)) ?_ (oS h' t (a.eval x).cells (cellsOf t') true sp k g hg (by
    rw[nG hlen]
    cases sp
    ·exact c1
    ·exact fun be G' p q=>(kr (ht be G' p q) O8).1) c2 (by rw[hlen];simp)) ?_
   ·simp[execOp,ho,Instr.box,newVar,newRow]
   ·simp[au,bN,du]
  split at hq
  ·simp only[Q.run_bind]at hq
   cases hz:(fz true aM (st.rho x')).run st.get st.sh.length with
   |none=>simp[hz]at hq
   |some p=>
    obtain⟨t',us⟩:=p
    simp only[hz,Option.bind_some]at hq
    split at hq
    ·rename_i he
     simp at he
     obtain⟨rfl,yX⟩:=he
     obtain⟨sp,k,g,rfl,rfl,hg,Ta⟩:=gq hq
     obtain⟨M',q1,q2,q3,q4,q5⟩:=pL true st aM (st.rho x') B st w β M _ t' [] _ (Fz.refl st) h vx hz
     exact dh.less q3 (fin M' t' q1 yX sp k g hg (by cases sp;exact q4.toV;exact q4))
    ·simp[Q.run]at hq
  ·obtain⟨sp,k,g,rfl,rfl,hg,Ta⟩:=gq hq
   exact fin M _ h O8 sp k g hg (by cases sp;exact vx;(have:=Ta rfl;simp_all))
omit bZ in
theorem Fx{d:Nat}{sh:Bool}{t:TypeId}(ho:o.op= .makeMap t none)(hq:(bC d st.rho (.mkmap sh)).run st.get st.sh.length=some (.val v ups)):dh P B st a w β M o v ups:=by
 simp only[bC]at hq
 obtain⟨sp,k,g,rfl,rfl,hg,Ta⟩:=gq hq
 refine uS (ext:=0) (cv:= .map (some w.heap.size)) (o':= .map #[] 0) ?_ (Fo h sp k g hg (.map #[] 0) 0 (.map [] [] false) ?_) ?_
 ·simp[execOp,ho,Instr.makeMap]
 ·unfold dg
  simp only[bN]
  exact⟨#[],0,by rw[heap_alloc,if_pos rfl],MapKept.stamped_empty 0,by simp[PList],by simp[PList],fun _ _=>Or.inr (by trivial)⟩
 ·simp[au,bN,du]
theorem Ja{d:Nat}{sh:Bool}{t e:TypeId}{l c:Operand}{l':aZ}{i:TypeInfo}{z:T}(ho:o.op= .makeSlice t l c)(ht:P.underlying t=some (.slice e))(hi:P.info? e=some i)(hz:jT P e=some z)(hl:dC l=some l')(gT:uQ l c=true)
  (O6:noTup z=true) (kW:i.size=(cellsOf z).length) (h0:i.size≠0)
  (hq:(bC d st.rho (.mksl (cellsOf z) i.bytes l' sh)).run st.get st.sh.length=some (.val v ups)):dh P B st a w β M o v ups:=by
 have vl:=bZ l l' hl
 have ec:a.eval c=a.eval l:=by
  unfold uQ at gT
  split at gT
  ·simp at gT;subst gT;rfl
  ·simp at gT;subst gT;rfl
  ·cases gT
 simp only[bC]at hq
 split at hq
 ·rename_i n en
  obtain⟨k0,m,em,hm,rfl⟩:=fB en
  rw[em]at vl
  have el:=vl.int
  split at hq
  ·rename_i eo
   simp at eo
   obtain⟨wv,Nu⟩:=eo
   obtain⟨sp,k,g,rfl,rfl,hg,Ta⟩:=gq hq
   obtain⟨i',zv,z1,z2,z3⟩:=nC hz
   rw[hi]at z1;simp at z1;subst z1
   obtain⟨c1,c2⟩:=nD (w:=w) (M:=M) (iS z3) O6
   have hlen:=PList.length _ _ c1
   have Nt:zv.cells.size=i.size:=by rw[kW,hlen];simp
   have Jb:=rq zv.cells m.toNat (by omega)
   have O9:roomy=1099511627776:=rfl
   rw[O9]at wv Nu
   have Fv:IntKind.i64.wrap m=m:=by
    simp[IntKind.wrap,IntKind.bits,IntKind.signed];omega
   have Tb:((Array.range (m.toNat*i.size)).map (fun j=>zv.cells[j%zv.cells.size]!)).size=m.toNat*i.size:=by simp
   refine uS (cv:= .slice (some ⟨w.heap.size,0,none⟩) m.toNat m.toNat) ?_ (oS h e ((Array.range (m.toNat*i.size)).map (fun j=>zv.cells[j%zv.cells.size]!)) (repl (cellsOf z) m.toNat) false sp k g hg ?_ (rv c2 _) ?_) ?_
   ·have hmul:(i.bytes:Int)*m=((m.toNat*i.bytes:Nat):Int):=by rw[Int.natCast_mul,Int.toNat_of_nonneg hm,Int.mul_comm]
    have:=sZ (P:=P) (w:=w) (k:=k0) ht hi z2 hm Fv (by rw[hmul];omega) (by omega)
    simp[execOp,ho,ec,el,this]
   ·show PList w M _ _
    rw[nF,←kW,←Nt,Jb]
    have:=PList.repl c1 m.toNat
    rw[nG]
    ·exact this
    ·rw[nF];simp
   ·rw[Tb,nF,kW];exact Nat.le_refl _
   ·simp only[au,bN,du]
    refine⟨by simp,m.toNat,rfl,Nat.le_refl _, ?_⟩
    rw[Tb,kW];simp
  ·simp[Q.run]at hq
 ·simp[Q.run]at hq
end
end Go.Ev
namespace Go.Ev
open Go
theorem fS(st:St): ∀(us:List Up) (sp:Sp) (k:Nat),fP us sp k=false→(st.ups us).get sp k=st.get sp k:=by
 intro us
 induction us generalizing st with
 |nil=>intro sp k _;rfl
 |cons u us ih=>
  intro sp k hh
  obtain⟨cu,k',e⟩:=u
  simp only[fP,List.any_cons,Bool.or_eq_false_iff]at hh
  simp only[St.ups]
  rw[ih (st.up (cu,k',e)) sp k hh.2,dz,if_neg]
  rintro⟨rfl,rfl⟩
  simp at hh
theorem Nv(st:St)(u:Up):(st.up u).fr=st.fr:=by obtain⟨sp,k,e⟩:=u;cases sp <;> rfl
theorem uT(st:St): ∀(us:List Up),(st.ups us).fr=st.fr:=by
 intro us
 induction us generalizing st with
 |nil=>rfl
 |cons u us ih=>simp only[St.ups];rw[ih,Nv]
theorem pO: ∀{ps:List (Nat×Operand)} {r:List (Nat×aZ)},lX ps=some r→ps.length=r.length∧ ∀(j i:Nat) (x:Operand) (i':Nat) (y:aZ),ps[j]? =some (i,x)→r[j]? =some (i',y)→i'=i∧dC x=some y
 | [],r,h=>by simp[lX]at h;subst h;simp
 |(i0,x0)::ps,r,h=>by
  simp only[lX]at h
  split at h
  ·rename_i y r' h2 h3
   simp at h;subst h
   obtain⟨a1,a2⟩:=pO h3
   refine⟨by simp[a1],fun j i x i' y' b1 b2=> ?_⟩
   cases j with
   |zero=>simp at b1 b2;obtain⟨rfl,rfl⟩:=b1;obtain⟨rfl,rfl⟩:=b2;exact⟨rfl,h2⟩
   |succ j=>exact a2 j i x i' y' (by simpa using b1) (by simpa using b2)
  ·cases h
theorem wV{w:World}{M:aI}{place:Nat→Option (Nat×Nat)}: ∀(parts:List (Nat×Value)) (ps:List (Nat×List T)) (zs:List T) (zc:Array Value) (rs:List T),
  PList w M zs zc.toList→zs.all single=true→parts.length=ps.length→(∀(j i:Nat) (cv:Value) (off:Nat) (ts:List T),parts[j]? =some (i,cv)→ps[j]? =some (off,ts)→place i=some (off,ts.length)∧PList w M ts cv.cells.toList∧ts.all single=true)→
  aF zs ps=some rs→ ∃rc,Instr.fill place zc parts=some rc∧PList w M rs rc.toList∧rs.all single=true∧rs.length=zs.length
 | [],ps,zs,zc,rs,hz,hs,hlen,hp,hf=>by
   cases ps with
   |nil=>simp[aF]at hf;subst hf;exact⟨zc,by simp[Instr.fill],hz,hs,rfl⟩
   |cons p ps=>simp at hlen
 |(i,cv)::parts,ps,zs,zc,rs,hz,hs,hlen,hp,hf=>by
  cases ps with
  |nil=>simp at hlen
  |cons p ps=>
   obtain⟨off,ts⟩:=p
   simp only[aF]at hf
   split at hf
   ·rename_i hle
    obtain⟨p1,p2,p3⟩:=hp 0 i cv off ts rfl rfl
    have ny:=PList.length _ _ p2
    have wu:=PList.length _ _ hz
    have kW:cv.cells.size=ts.length:=by rw[ny];simp
    have Nt:zc.size=zs.length:=by rw[wu];simp
    have hc: ¬((cv.cells.size≠ts.length||off+cv.cells.size>zc.size)=true):=by
     rw[kW,Nt];simp;omega
    have e:(cv.cells.zipIdx.foldl (fun(cs:Array Value) (p:Value×Nat)=>cs.setIfInBounds (off+p.2) p.1) zc).toList=splice zc.toList off cv.cells.toList:=by
     have:=oR off cv.cells.toList 0 zc
     rw[←Array.foldl_toList,Array.toList_zipIdx];simpa using this
    obtain⟨rc,r1,r2,r3,r4⟩:=wV parts ps (splice zs off ts) (cv.cells.zipIdx.foldl (fun(cs:Array Value) (p:Value×Nat)=>cs.setIfInBounds (off+p.2) p.1) zc) rs
     (by rw[e];exact PList.splice hz p2) (ku hs p3) (by simpa using hlen) (fun j i cv off ts a b=>hp (j+1) i cv off ts (by simpa using a) (by simpa using b)) hf
    refine⟨rc, ?_,r2,r3,by rw[r4,cz]⟩
    simp only[Instr.fill,p1]
    rw[if_neg hc]
    exact r1
   ·cases hf
theorem ry{P:Program}{w:World}{t e:TypeId}{len n:Nat}{i:TypeInfo}{zv:Value}{parts:Array (Nat×Value)}{rc:Array Value}(ht:P.underlying t=some (.slice e))(hi:P.info? e=some i)(hn:i.size=n)(hz:i.zero=some zv)(hle:len*n≤16777216)
  (Fy:Instr.fill (fun j=>some (j*n,n)) ((Array.range (len*n)).map (fun j=>zv.cells[j%zv.cells.size]!)) parts.toList=some rc):
  (Instr.buildSlice t len parts).run P w= .ok (.slice (some ⟨w.heap.size,0,none⟩) len len) (w.alloc (.cells rc e)):=by
 have ta: ¬(len*n>2 ^ 24):=by omega
 have hso:(sizeOf e).run P w= .ok n w:=by simp[sizeOf,typeInfo,hi,hn]
 have hzero:(zeroValue e).run P w= .ok zv w:=by simp[zeroValue,typeInfo,hi,hz]
 unfold Instr.buildSlice
 by_cases Tc:len*n=0
 ·have e0: ∀f:Nat→Value,(Array.range (len*n)).map f= #[]:=by
   intro f;rw[Tc];have Yw:Array.range 0= #[]:=rfl
   rw[Yw];simp
  rw[e0]at Fy
  simp only[Sem.run_bind,run_underlying ht,Result.andThen_ok,hso,if_neg ta,if_pos Tc,Sem.run_pure,e0,Fy]
  simp[newRow]
 ·simp only[Sem.run_bind,run_underlying ht,Result.andThen_ok,hso,if_neg ta,if_neg Tc,Sem.run_pure,hzero,Fy]
  simp[newRow]
section
variable{P:Program}{B:dP}{st:St}{a:Act}{w:World}{β:aS}{M:aI}{o:Oper}{v:T}{ups:List Up}
variable(bZ:iw β st.gens w M st.rho a.eval)(h:bf B st w β M)
theorem Tr.fz{bn:St}{M':aI}(hf:Fz st bn)(hs: ∀b x,M' b x→M b x):Tr st w β M bn w β M':=
 ⟨cM hs,fun _ _ _ _=>rfl,fun sp k=>by rw[hf.gens];exact Nat.le_refl _⟩
include bZ h
theorem Pa{d nx:Nat}{t e:TypeId}{len:Nat}{ps:Array (Nat×Operand)}{r:List (Nat×aZ)}{z:T}{n:Nat}(ho:o.op= .buildSlice t len ps)(ht:P.underlying t=some (.slice e))(hz:jT P e=some z)(hn:dt P e=some n)(hr:lX ps.toList=some r)
  (O6:noTup z=true) (kW:n=(cellsOf z).length) (h0:n≠0) (nH:len*n≤16777216)
  (hq:(bC d st.rho (.bsl (cellsOf z) len r)).run st.get nx=some (.val v ups)):dh P B st a w β M o v ups:=by
 simp only[bC,Q.run_bind]at hq
 cases hm:(bl (Ev.fz false aM) (r.map fun p=>st.rho p.2)).run st.get nx with
 |none=>simp[hm]at hq
 |some p=>
  obtain⟨ts,us⟩:=p
  simp only[hm,Option.bind_some]at hq
  split at hq
  ·rename_i aU
   split at hq
   ·rename_i cs hf
    simp[Q.run]at hq;obtain⟨rfl,rfl⟩:=hq
    obtain⟨g1,g2⟩:=pO hr
    have jX:av β st.gens w M (r.map fun p=>st.rho p.2) (ps.toList.map fun p=>a.eval p.2):=by
     have gen: ∀(qs:List (Nat×Operand)) (rs:List (Nat×aZ)),qs.length=rs.length→(∀(j i:Nat) (x:Operand) (i':Nat) (y:aZ),qs[j]? =some (i,x)→rs[j]? =some (i',y)→i'=i∧dC x=some y)→av β st.gens w M (rs.map fun p=>st.rho p.2) (qs.map fun p=>a.eval p.2):=by
      intro qs
      induction qs with
      |nil=>intro rs hl _;cases rs with|nil=>simp[av]|cons _ _=>simp at hl
      |cons q qs ih=>
       intro rs hl hg
       cases rs with
       |nil=>simp at hl
       |cons rr rs=>
        simp only[List.map_cons,av]
        exact⟨_,_,rfl,bZ _ _ (hg 0 q.1 q.2 rr.1 rr.2 rfl rfl).2,ih rs (by simpa using hl) (fun j i x i' y a b=>hg (j+1) i x i' y (by simpa using a) (by simpa using b))⟩
     exact gen _ _ g1 g2
    obtain⟨M',q1,q2,q3,q4,q5,q6⟩:=gF (fun t=>pL false st aM t) _ B st w β M _ ts us nx (Fz.refl st) h jX hm
    have VU:PList w M' ts (ps.toList.map fun p=>a.eval p.2):=q4
    obtain⟨i,zv,z1,z2,z3⟩:=nC hz
    obtain⟨c1,c2⟩:=nD (w:=w) (M:=M') (iS z3) O6
    have VV:=PList.length _ _ c1
    have Td:i.size=n:=by unfold dt at hn;rw[z1]at hn;simpa using hn
    have Nt:zv.cells.size=n:=by rw[kW,VV];simp
    have Jb:=rq zv.cells len (by omega)
    rw[Nt]at Jb
    have Te:PList w M' (repl (cellsOf z) len) ((Array.range (len*n)).map (fun j=>zv.cells[j%n]!)).toList:=by
     rw[Jb];exact PList.repl c1 len
    obtain⟨rc,r1,r2,r3,r4⟩:=wV (place:=fun i=>some (i*n,n)) (ps.toList.map fun p=>(p.1,a.eval p.2)) _ (repl (cellsOf z) len) _ cs Te (rv c2 len) (by simp[g1,q6]) (by
     intro j i cv off tt b1 b2
     rw[List.getElem?_map,Option.map_eq_some_iff]at b1
     obtain⟨⟨i1,x⟩,c3,c4⟩:=b1
     simp at c4;obtain⟨rfl,rfl⟩:=c4
     rw[List.getElem?_zip_eq_some]at b2
     obtain⟨b3,b4⟩:=b2
     rw[List.getElem?_map,Option.map_eq_some_iff]at b3 b4
     obtain⟨⟨i2,y⟩,d1,d2⟩:=b3
     obtain⟨tv,d3,d4⟩:=b4
     obtain⟨e1,e2⟩:=g2 j i1 x i2 y c3 d1
     subst e1
     simp at d2
     obtain⟨cv',f1,f2⟩:=VU.get d3
     rw[List.getElem?_map,c3]at f1
     simp at f1;subst f1
     have gH:=(List.all_eq_true.1 aU) _ (List.mem_of_getElem? d3)
     simp at gH
     obtain⟨k1,k2⟩:=nD f2 gH.2
     subst d4
     exact⟨by rw[gH.1,←kW,←d2,kW],k1,k2⟩) hf
    obtain⟨p1,p2⟩:=OR q1 (.cells rc e)
    refine⟨_,.slice (some ⟨w.heap.size,0,none⟩) len len,w.alloc (.cells rc e),β,M', ?_,.inl rfl,p1,(Tr.fz q2 q3).trans p2 (Nat.le_refl _),by show _≤(w.heap.push _).size;simp, ?_⟩
    ·have:=ry (P:=P) (w:=w) (t:=t) (e:=e) (len:=len) (n:=n) (parts:=ps.map fun(i,x)=>(i,a.eval x)) (rc:=rc) ht z1 Td z2 nH (by rw[Nt];simpa using r1)
     simp[execOp,ho,this]
    ·simp only[au,PRel]
     refine⟨w.heap.size,0,len,none,rfl,Nat.le_refl _,fun _=>rfl,.inl rfl, ?_⟩
     have Pb:=PList.length _ _ r2
     refine aP.of (c:=rc) (el:=e) (fz:=(0,0)) (by rw[heap_alloc,if_pos rfl]) _ _ ?_ ?_ r3
     ·rw[List.drop_zero,nG Pb];exact PList.mono p2.keep _ _ r2
     ·intro x _ _ O4
      exact Nat.lt_irrefl _ (q1.mlt _ _ O4)
   ·simp[Q.run]at hq
  ·simp[Q.run]at hq
end
end Go.Ev
namespace Go.Ev
open Go
theorem kY{w:World}{g:Nat}{Jc cs:Array Value}{t:TypeId}{fr:Nat×Nat}(hg:w.heap[g]? =some (.cells Jc t fr)):w.setRow g cs=setBlock w g (.cells cs t fr):=by
 unfold World.setRow setBlock
 congr 1
 apply Array.ext_getElem?
 intro i
 rw[Array.getElem?_modify,Array.getElem?_setIfInBounds]
 split
 ·rename_i e;subst e;rw[hg,if_pos (eN hg)];rfl
 ·rfl
theorem au.one{β:aS}{G:Sp→Nat→Nat}{w:World}{M:aI}{t:T}{cv:Value}(h:au β G w M t cv)(hs:single t=true):cv.oneCell'=true:=by
 cases t <;> simp[single]at hs <;> simp only[au,PRel]at h
 all_goals first
  |(subst h;rfl)
  |(obtain⟨_,rfl,_⟩:=h;rfl)
  |(obtain⟨_,_,rfl,_⟩:=h;rfl)
  |(obtain⟨_,_,_,rfl,_⟩:=h;rfl)
  |(obtain⟨_,_,_,_,rfl,_⟩:=h;rfl)
  |(obtain⟨_,rfl⟩:=h;rfl)
theorem av.one{β:aS}{G:Sp→Nat→Nat}{w:World}{M:aI}: ∀{ts:List T} {vs:List Value},av β G w M ts vs→ts.all single=true→ ∀v∈vs,v.oneCell'=true
 | [],vs,h,_=>by simp only[av]at h;subst h;simp
 |t::ts,vs,h,hs=>by
  simp only[av]at h
  obtain⟨u,us,rfl,h1,h2⟩:=h
  simp only[List.all_cons,Bool.and_eq_true]at hs
  intro v hv
  simp at hv
  rcases hv with rfl|hv
  ·exact h1.one hs.1
  ·exact av.one h2 hs.2 v hv
theorem Jd(l vs:List Value)(k:Nat)(hk:k+vs.length≤l.length)(j:Nat):(l.take k++vs++l.drop (k+vs.length))[j]? =(splice l k vs)[j]? :=by
 rw[cW]
 by_cases h1:j<k
 ·rw[if_neg (by omega),List.append_assoc,List.getElem?_append_left (by simp;omega),List.getElem?_take,if_pos h1]
 ·by_cases h2:j<k+vs.length
  ·rw[if_pos (by omega),List.append_assoc,List.getElem?_append_right (by simp;omega),List.getElem?_append_left (by simp;omega)]
   congr 1;simp;omega
  ·rw[if_neg (by omega),List.getElem?_append_right (by simp;omega),List.getElem?_drop]
   congr 1;simp;omega
theorem zt(l vs:List Value)(k:Nat)(hk:k+vs.length≤l.length):l.take k++vs++l.drop (k+vs.length)=splice l k vs:=by
 apply List.ext_getElem?;intro j;exact Jd l vs k hk j
section
variable{P:Program}{B:dP}{st:St}{a:Act}{w:World}{β:aS}{M:aI}{o:Oper}{v:T}{ups:List Up}
theorem rz(h:bf B st w β M){sp:Sp}{k g wm:Nat}{cs:List T}{bx:Bool}(he:st.get sp k=⟨g,.cells cs wm bx⟩)(g':Nat)(Q8:g≤g'){c:Array Value}{el:TypeId}
  (hb:w.heap[(β sp k g).blk]? =some (.cells c el (0,0))) (off:Nat) (vs:List Value) (mw:List T) (wW:wm≤off) (wX:off+vs.length≤(β sp k g).ext) (hle:cs.length≤mw.length) (Yx:mw.length≤(β sp k g).ext) (hs:mw.all single=true)
  (hl:gR sp bx β st.gens w M mw ((splice (c.toList.drop (β sp k g).off) off vs).take mw.length)):
  bf B (st.up (sp,k,⟨g',.cells mw wm bx⟩)) (setBlock w (β sp k g).blk (.cells (splice c.toList ((β sp k g).off+off) vs).toArray el)) (fg β sp k g' (β sp k g)) M∧
  Tr st w β M (st.up (sp,k,⟨g',.cells mw wm bx⟩)) (setBlock w (β sp k g).blk (.cells (splice c.toList ((β sp k g).off+off) vs).toArray el)) (fg β sp k g' (β sp k g)) M:=by
 have hg:st.gens sp k=g:=by show(st.get sp k).g=g;rw[he]
 have Pc:live (st.get sp k):=by rw[he];trivial
 have ho:=h.obj sp k
 rw[he]at ho
 unfold dg at ho
 obtain⟨c0,el0,fz0,h1,h2,h3,h4,h5,h6,h7,h8⟩:=ho
 dsimp only at h1 h2 h3 h4 h6
 rw[hb]at h1
 simp at h1
 obtain⟨rfl,rfl,rfl⟩:=h1
 have Je:=eN hb
 have hk:c9 w M (setBlock w (β sp k g).blk (.cells (splice c.toList ((β sp k g).off+off) vs).toArray el)) M:=by
  refine⟨fun b x u hu hm=> ?_,fun b es cl hu hm=> ?_,fun _ _ _ h=>h⟩
  ·by_cases CH:b=(β sp k g).blk
   ·subst CH
    unfold World.cell? at hu ⊢
    rw[hb]at hu
    rw[cw,if_pos ⟨rfl,Je⟩]
    simp at hu ⊢
    rw[cW,if_neg]
    ·simpa using hu
    ·rintro⟨q1,q2,q3⟩
     apply hm
     have:=h6 (x-(β sp k g).off) (by omega) (by omega)
     rwa [show(β sp k g).off+(x-(β sp k g).off)=x by omega]at this
   ·rw[fQ (w:=w) (by rw[cw,if_neg (fun e=>CH e.1)])];exact hu
  ·by_cases CH:b=(β sp k g).blk
   ·subst CH;rw[hb]at hu;simp at hu
   ·rw[cw,if_neg (fun e=>CH e.1)];exact hu
 have Bi: ∀cu k' Tf,Tf≤st.gens cu k'→fg β sp k g' (β sp k g) cu k' Tf=β cu k' Tf:=by
  intro cu k' Tf ta
  by_cases e:cu=sp∧k'=k∧Tf=g'
  ·obtain⟨rfl,rfl,rfl⟩:=e
   rw[bN,←hg]
   congr 1;omega
  ·exact nv _ _ _ _ _ e
 have hG: ∀cu k',st.gens cu k'≤(st.up (sp,k,⟨g',.cells mw wm bx⟩)).gens cu k':=by
  intro cu k';rw[du];split
  ·rename_i e;obtain⟨rfl,rfl⟩:=e;rw[hg];exact Q8
  ·exact Nat.le_refl _
 have key:=A6 (M':=M) h sp k g' (.cells mw wm bx) Pc (by rw[hg];exact Q8) (.cells (splice c.toList ((β sp k g).off+off) vs).toArray el) (fun _ _ hm=>hm) (fun _ _ _ hm=>hm) (by rw[hg];exact hk) (h.base Pc)
 rw[hg]at key
 refine key ?_
 unfold dg
 simp only[bN]
 refine⟨_,el,(0,0),by rw[cw,if_pos ⟨rfl,Je⟩],by simp[cz];omega,Yx,rfl, ?_,h6,hs,by omega⟩
 have Nw:(splice c.toList ((β sp k g).off+off) vs).drop (β sp k g).off=splice (c.toList.drop (β sp k g).off) off vs:=by
  apply List.ext_getElem?
  intro j
  rw[List.getElem?_drop,cW,cW,List.getElem?_drop,List.length_drop]
  have e:(β sp k g).off+j-((β sp k g).off+off)=j-off:=by omega
  rw[e]
  by_cases hc:off≤j∧j<off+vs.length∧j<c.toList.length-(β sp k g).off
  ·rw[if_pos hc,if_pos (by omega)]
  ·rw[if_neg hc,if_neg (by omega)]
 simp only[List.toList_toArray]at Nw ⊢
 rw[Nw]
 exact gR.mono hk Bi hG hl
variable(bZ:iw β st.gens w M st.rho a.eval)(h:bf B st w β M)
include h
omit h in
theorem tD{M':aI}{us:List Up}{t:TypeId}{n:Nat}{x y:Operand}{sp:Sp}{k g off wm:Nat}{cs:List T}{bx:Bool}{ts:List T}(ho:o.op= .store t x y)(hn:dt P t=some n)(h':bf B (st.ups us) w β M')(htr:Tr st w β M (st.ups us) w β M')
  (hx:a.eval x= .pointer (some ⟨(β sp k g).blk,(β sp k g).off+off,none⟩)) (he:(st.ups us).get sp k=⟨g,.cells cs wm bx⟩) (wW:wm≤off) (hle:off+n≤cs.length) (hlen:ts.length=n) (hs:ts.all single=true)
  (hl:gR sp bx β (st.ups us).gens w M' ts (a.eval y).cells.toList):
  dh P B st a w β M o bm (us++ [(sp,k,⟨g,.cells (splice cs off ts) wm bx⟩)]):=by
 have qq:=h'.obj sp k
 rw[he]at qq
 unfold dg at qq
 obtain⟨c,el,fz,h1,h2,h3,h4,h5,h6,h7,h8⟩:=qq
 dsimp only at h1 h2 h3 h4 h5 h6
 subst h4
 have hlV:av β (st.ups us).gens w M' ts (a.eval y).cells.toList:=hl.toV
 have jX:=av.length _ _ hlV
 have Pd:=av.one hlV hs
 have pI:=run_storeCells_at P (β sp k g).blk ((β sp k g).off+off) el (a.eval y).cells.toList 0 c w h1 (by simp at jX ⊢; omega) Pd
 rw[kY h1]at pI
 simp only[Nat.add_zero]at pI
 rw[zt _ _ _ (by simp at jX ⊢; omega)]at pI
 have key:=rz h' he g (Nat.le_refl _) h1 off (a.eval y).cells.toList (splice cs off ts) wW (by omega) (by rw[cz];exact Nat.le_refl _) (by rw[cz];exact h3) (ku h7 hs) (by
  rw[cz]
  have FA:(splice (c.toList.drop (β sp k g).off) off (a.eval y).cells.toList).take cs.length=splice ((c.toList.drop (β sp k g).off).take cs.length) off (a.eval y).cells.toList:=by
   apply List.ext_getElem?
   intro j
   rw[List.getElem?_take,cW,cW,List.getElem?_take,List.length_take]
   by_cases hj:j<cs.length
   ·rw[if_pos hj,if_pos hj]
    by_cases hc:off≤j∧j<off+(a.eval y).cells.toList.length∧j<(c.toList.drop (β sp k g).off).length
    ·rw[if_pos hc,if_pos (by omega)]
    ·rw[if_neg hc,if_neg (by omega)]
   ·rw[if_neg hj,if_neg hj,if_neg (by omega)]
  rw[FA]
  cases bx
  ·exact PList.splice h5 hl
  ·cases sp
   ·exact av.splice h5 hl
   ·exact fun be G' p q=>av.splice (h5 be G' p q) (hl be G' p q))
 rw[jW]at key
 refine⟨.skip,undef,setBlock w (β sp k g).blk (.cells (splice c.toList ((β sp k g).off+off) (a.eval y).cells.toList).toArray el),β,M', ?_,.inr ⟨rfl,rfl⟩, ?_, ?_,by rw[dc];exact Nat.le_refl _, ?_⟩
 ·have fF:(a.eval y).cells.size=n:=by simp at jX;omega
  simp[execOp,ho,hx,Instr.storeAt,Instr.sureAddr,storeVar,eO hn,fF,pI]
 ·rw[cV];exact key.1
 ·rw[cV];exact htr.trans key.2 (Nat.le_refl _)
 ·simp[au,bm,undef,av]
include bZ
theorem Tg{d:Nat}{t:TypeId}{n:Nat}{x y:Operand}{x' y':aZ}(ho:o.op= .store t x y)(hx:dC x=some x')(hy:dC y=some y')(hn:dt P t=some n)
  (hq:(bC d st.rho (.st x' y' n)).run st.get st.sh.length=some (.val v ups)):dh P B st a w β M o v ups:=by
 have vx:=bZ x x' hx
 have vy:=bZ y y' hy
 simp only[bC,jm]at hq
 split at hq
 ·simp[Q.run]at hq
 ·rename_i hc
  simp at hc
  obtain⟨hlen,O8⟩:=hc
  split at hq
  ·rename_i sp k g off ex
   rw[ex]at vx
   simp only[au]at vx
   simp only[Q.run]at hq
   split at hq
   ·rename_i hg
    generalize he:st.get sp k=e at*
    obtain⟨ge,ob⟩:=e
    dsimp only at hg;subst hg
    cases ob with
    |none=>simp[Q.run]at hq
    |map _ _ _=>simp[Q.run]at hq
    |cells cs wm bx=>
     dsimp only at hq
     split at hq
     ·rename_i wW
      simp at wW
      split at hq
      ·rename_i ID
       simp at ID
       obtain⟨rfl,rfl⟩:=ID
       simp[Q.run]at hq;obtain⟨rfl,rfl⟩:=hq
       obtain⟨k1,k2⟩:=kr vy O8
       exact tD (us:= []) ho hn h (Tr.refl _ _ _ _) vx.2 he wW.1 wW.2 hlen k2 k1
      ·rename_i ID
       simp only[Q.run_bind]at hq
       cases hz:(fz (bx&&sp== .S) aM (st.rho y')).run st.get st.sh.length with
       |none=>simp[hz]at hq
       |some p=>
        obtain⟨t',us⟩:=p
        simp only[hz,Option.bind_some]at hq
        split at hq
        ·simp[Q.run]at hq
        ·rename_i hh
         simp at hh
         obtain⟨⟨Th,Pe⟩,hh3⟩:=hh
         simp[Q.run]at hq;obtain⟨rfl,rfl⟩:=hq
         obtain⟨M',q1,q2,q3,q4,q5⟩:=pL _ st aM (st.rho y') B st w β M _ t' us _ (Fz.refl st) h vy hz
         have Jf:(st.ups us).get sp k=⟨ge,.cells cs wm bx⟩:=by rw[fS st us sp k Th];exact he
         refine tD (us:=us) ho hn q1 (Tr.fz q2 q3) vx.2 Jf wW.1 wW.2 hh3 ?_ ?_
         ·exact(kr q4.toV Pe).2
         ·cases bx with
          |false=>
           simp only[Bool.false_and]at q4
           exact(nD q4 Pe).1
          |true=>
           cases sp with
           |L=>simp at ID
           |S=>
            simp only[Bool.true_and,beq_self_eq_true]at q4
            rw[q2.gens]
            exact fun be G' p q=>(kr (q4 be G' p q) Pe).1
     ·simp[Q.run]at hq
   ·simp[Q.run]at hq
  ·simp[Q.run]at hq
end
end Go.Ev
namespace Go.Ev
open Go
section
variable{P:Program}{B:dP}{st:St}{a:Act}{w:World}{β:aS}{M:aI}{o:Oper}{v:T}{ups:List Up}
variable(bZ:iw β st.gens w M st.rho a.eval)(h:bf B st w β M)
theorem zu{t kt et:TypeId}{ek:EK}{m:Option Nat}{es:Array MapEntry}{clock:Nat}{ks vs:List T}{k z r:T}{kv zv:Value}{ok:Bool}(ht:P.underlying t=some (.map kt et))(hk:keyOf P kt=some ek)
  (hm:(m=none∧es= #[])∨ ∃blk,m=some blk∧w.heap[blk]? =some (.map es clock)) (VW:PList w M ks (es.toList.map (·.key))) (Ti:PList w M vs (es.toList.map (·.val))) (Yy:au β st.gens w M k kv) (hz:(zeroValue et).run P w= .ok zv w) (hzr:PRel w M z zv)
  (hq:k8 ek ks vs k z ok=some r): ∃cv,(Instr.lookup t (.map m) kv ok).run P w= .ok cv w∧au β st.gens w M r cv:=by
 unfold k8 at hq
 split at hq
 ·cases hq
 ·rename_i zp
  simp at zp
  have IC:(Instr.checkKey es.isEmpty 10000 kt kv).run P w= .ok () w:=pM (P:=P) hk Yy zp 9998 es.isEmpty
  have run: ∀res,(Instr.findKey kt kv es.toList).run P w= .ok res w→(Instr.lookup t (.map m) kv ok).run P w=
    .ok (match res with|some (_,cv)=>if ok then .tuple #[cv,.bool true]else cv|none=>if ok then .tuple #[zv,.bool false]else zv) w:=by
   intro res my
   unfold Instr.lookup
   rcases hm with⟨rfl,rfl⟩|⟨blk,rfl,hb⟩
   ·simp only[Sem.run_bind,run_underlying ht,Result.andThen_ok,Sem.run_pure,IC,my]
    cases res with
    |none=>simp[hz]
    |some p=>simp
   ·have qu:(getObj blk).run P w= .ok (.map es clock) w:=by simp[getObj,Sem.run,hb]
    simp only[Sem.run_bind,run_underlying ht,Result.andThen_ok,Sem.run_pure,qu,IC,my]
    cases res with
    |none=>simp[hz]
    |some p=>simp
  split at hq
  ·rename_i i hf
   obtain⟨res,r1,r2⟩:=kq (P:=P) hk Yy es.toList ks _ VW hf
   obtain⟨e,e1,e2⟩:=r2
   simp only[Option.map_eq_some_iff]at hq
   obtain⟨v',VY,rfl⟩:=hq
   obtain⟨cv,c1,c2⟩:=Ti.get VY
   rw[List.getElem?_map,e1]at c1
   simp at c1;subst c1
   refine⟨_,run res r1, ?_⟩
   subst e2
   cases ok
   ·exact PRel.toV _ _ _ _ c2
   ·simp only[if_true,au,av]
    exact⟨_,rfl,_,_,rfl,PRel.toV _ _ _ _ c2,_,_,rfl,rfl,rfl⟩
  ·rename_i hf
   simp at hq;subst hq
   obtain⟨res,r1,r2⟩:=kq (P:=P) hk Yy es.toList ks _ VW hf
   refine⟨_,run res r1, ?_⟩
   have:res=none:=r2
   subst this
   cases ok
   ·exact PRel.toV _ _ _ _ hzr
   ·simp only[if_true,au,av]
    exact⟨_,rfl,_,_,rfl,PRel.toV _ _ _ _ hzr,_,_,rfl,rfl,rfl⟩
  ·cases hq
include bZ h
theorem Tj{d nx:Nat}{t kt et:TypeId}{m k:Operand}{m' k':aZ}{ok:Bool}{ek:EK}{z:T}(ho:o.op= .lookup t m k ok)(hm:dC m=some m')(hk:dC k=some k')(ht:P.underlying t=some (.map kt et))(Q9:keyOf P kt=some ek)(hz:jT P et=some z)
  (hq:(bC d st.rho (.lk ek m' k' z ok)).run st.get nx=some (.val v ups)):dh P B st a w β M o v ups:=by
 have vm:=bZ m m' hm
 have vk:=bZ k k' hk
 obtain⟨zv,z1,z2⟩:=tC hz w
 have fin: ∀(mm:Option Nat) (es:Array MapEntry) (clock:Nat) (ks vs:List T) (r:T),a.eval m= .map mm→((mm=none∧es= #[])∨ ∃blk,mm=some blk∧w.heap[blk]? =some (.map es clock))→PList w M ks (es.toList.map (·.key))→PList w M vs (es.toList.map (·.val))→
   k8 ek ks vs (st.rho k') z ok=some r→dh P B st a w β M o r []:=by
  intro mm es clock ks vs r e1 e2 e3 e4 e5
  obtain⟨cv,r1,r2⟩:=zu (P:=P) (β:=β) (st:=st) ht Q9 e2 e3 e4 vk z1 (z2 w M) e5
  exact aT h (cv:=cv) (by simp[execOp,ho,e1,r1]) r2
 simp only[bC]at hq
 split at hq
 ·rename_i e
  rw[e]at vm;simp only[au]at vm
  split at hq
  ·rename_i zp
   simp[Q.run]at hq;obtain⟨rfl,rfl⟩:=hq
   exact fin none #[] 0 [] [] _ vm (.inl ⟨rfl,rfl⟩) (by simp[PList]) (by simp[PList]) (by simp[k8,zp,dY])
  ·simp[Q.run]at hq
 ·rename_i ks vs e
  rw[e]at vm;simp only[au,PRel]at vm
  obtain⟨blk,es,clock,e1,e2,_,_,e3,e4⟩:=vm
  cases hl:k8 ek ks vs (st.rho k') z ok with
  |none=>simp[hl,Ev.val,Q.run]at hq
  |some r=>
   simp[hl,Ev.val,Q.run]at hq;obtain⟨rfl,rfl⟩:=hq
   exact fin _ es clock ks vs _ e1 (.inr ⟨blk,rfl,e2⟩) e3 e4 hl
 ·rename_i sp kk g e
  rw[e]at vm;simp only[au]at vm
  simp only[Q.run]at hq
  split at hq
  ·rename_i hg
   have qq:=h.obj sp kk
   generalize he:st.get sp kk=en at*
   obtain⟨ge,ob⟩:=en
   dsimp only at hg;subst hg
   cases ob with
   |none=>simp[Q.run]at hq
   |cells _ _ _=>simp[Q.run]at hq
   |map ks vs f=>
    dsimp only at hq
    unfold dg at qq
    obtain⟨es,clock,e2,_,e3,e4,_⟩:=qq
    cases hl:k8 ek ks vs (st.rho k') z ok with
    |none=>simp[hl,Ev.val,Q.run]at hq
    |some r=>
     simp[hl,Ev.val,Q.run]at hq;obtain⟨rfl,rfl⟩:=hq
     exact fin _ es clock ks vs _ vm.2 (.inr ⟨_,rfl,e2⟩) e3 e4 hl
  ·simp[Q.run]at hq
 ·simp[Q.run]at hq
omit bZ h
theorem PList.set{ts:List T}{vs:List Value}(i:Nat){t:T}{cv:Value}(h:PList w M ts vs)(ht:PRel w M t cv):PList w M (ts.set i t) (vs.set i cv):=by
 induction ts generalizing vs i with
 |nil=>simp only[PList]at h;subst h;simp[PList]
 |cons x xs ih=>
  simp only[PList]at h
  obtain⟨u,us,rfl,h1,h2⟩:=h
  cases i with
  |zero=>simp only[List.set_cons_zero,PList];exact⟨cv,us,rfl,ht,h2⟩
  |succ i=>simp only[List.set_cons_succ,PList];exact⟨u,_,rfl,h1,ih i h2⟩
theorem mI{c:CK}{x y:T}{xv yv:Value}(hx:au β st.gens w M x xv)(hy:au β st.gens w M y yv)(h:dJ c x y=some true)(n:Nat):Instr.sameBits n yv xv=true:=by
 unfold dJ at h
 split at h
 ·simp at h;subst h;rw[hx.bool,hy.bool];simp[Instr.sameBits]
 ·split at h
  ·rename_i e;subst e;simp at h;subst h;rw[hx.int,hy.int];simp[Instr.sameBits]
  ·cases h
 ·simp at h;subst h
  obtain⟨b1,e1,f1⟩:=hx.str
  obtain⟨b2,e2,f2⟩:=hy.str
  rw[e1,e2]
  have:(b2==b1)=true:=by
   rw[beq_toListBytes,←eD,←cP,←cP,f1,f2];simp
  simp only[Instr.sameBits];exact this
 ·cases h
theorem lE: ∀{ks:List CK} {xs ys:List T} {xv yv:List Value},av β st.gens w M xs xv→av β st.gens w M ys yv→cJ ks xs ys=some true→ ∀n,xv.length=yv.length∧((yv.zip xv).all fun p=>Instr.sameBits n p.1 p.2)=true
 | [],xs,ys,xv,yv,hx,hy,h,n=>by
   cases xs <;> cases ys <;> simp[cJ]at h
   simp only[av]at hx hy;subst hx;subst hy;simp
 |k::ks,xs,ys,xv,yv,hx,hy,h,n=>by
  cases xs with
  |nil=>cases ys <;> simp[cJ]at h
  |cons x xs=>
   cases ys with
   |nil=>simp[cJ]at h
   |cons y ys=>
    simp only[av]at hx hy
    obtain⟨u,us,rfl,h1,h2⟩:=hx
    obtain⟨u',us',rfl,lq,wY⟩:=hy
    simp only[cJ]at h
    cases hc:dJ k x y with
    |none=>simp[hc]at h
    |some b=>
     cases b with
     |false=>simp[hc]at h
     |true=>
      simp only[hc]at h
      obtain⟨l1,l2⟩:=lE h2 wY h n
      simp only[List.length_cons,List.zip_cons_cons,List.all_cons,Bool.and_eq_true]
      exact⟨by omega,mI h1 lq hc n,l2⟩
theorem uU{ek:EK}{x y:T}{xv yv:Value}(jx:(∃c,ek= .one c)∨ ∃ks,ek= .flat ks)(hx:au β st.gens w M x xv)(hy:au β st.gens w M y yv)(h:mO ek x y=some true)(n:Nat):Instr.sameBits (n+1) yv xv=true:=by
 rcases jx with⟨c,rfl⟩|⟨ks,rfl⟩
 ·exact mI hx hy h _
 ·unfold mO at h
  split at h <;> simp_all
  rename_i xs ys
  simp only[au]at hx hy
  obtain⟨xa,rfl,lx,_⟩:=hx
  obtain⟨ya,rfl,ly,_⟩:=hy
  obtain⟨l1,l2⟩:=lE lx ly h n
  simp only[Instr.sameBits,Bool.and_eq_true]
  refine⟨by simp at l1 ⊢; exact l1.symm,l2⟩
theorem wZ{ek:EK}{k:T}: ∀{ks:List T} {i:Nat},dY ek k ks=some (some i)→ ∃x,ks[i]? =some x∧mO ek k x=some true
 | [],i,h=>by simp[dY]at h
 |x::xs,i,h=>by
  simp only[dY]at h
  split at h
  ·rename_i he;simp at h;subst h;exact⟨x,rfl,he⟩
  ·simp only[Option.map_eq_some_iff]at h
   obtain⟨r,h1,h2⟩:=h
   cases r with
   |none=>simp at h2
   |some j=>
    simp at h2;subst h2
    obtain⟨y,e1,e2⟩:=wZ h1
    exact⟨y,by simpa using e1,e2⟩
  ·cases h
theorem pP{c:CK}{x y:T}{xv yv:Value}(hx:au β st.gens w M x xv)(hy:au β st.gens w M y yv)(h:dJ c x y=some true):xv=yv:=by
 unfold dJ at h
 split at h
 ·simp at h;subst h;rw[hx.bool,hy.bool]
 ·split at h
  ·rename_i e;subst e;simp at h;subst h;rw[hx.int,hy.int]
  ·cases h
 ·simp at h;subst h
  obtain⟨b1,e1,f1⟩:=hx.str
  obtain⟨b2,e2,f2⟩:=hy.str
  rw[e1,e2]
  have h3:cp b1=cp b2:=f1.trans f2.symm
  have h4:b1.data.toList=b2.data.toList:=(List.map_inj_right (f:=UInt8.toNat) (fun _ _ h=>UInt8.toNat_inj.1 h)).1 h3
  have h5:b1=b2:=ByteArray.ext (Array.toList_inj.1 h4)
  rw[h5]
 ·cases h
theorem nI: ∀{ks:List CK} {xs ys:List T} {xv yv:List Value},av β st.gens w M xs xv→av β st.gens w M ys yv→cJ ks xs ys=some true→xv=yv
 | [],xs,ys,xv,yv,hx,hy,h=>by
   cases xs <;> cases ys <;> simp[cJ]at h
   simp only[av]at hx hy;subst hx;subst hy;rfl
 |k::ks,xs,ys,xv,yv,hx,hy,h=>by
  cases xs with
  |nil=>cases ys <;> simp[cJ]at h
  |cons x xs=>
   cases ys with
   |nil=>simp[cJ]at h
   |cons y ys=>
    simp only[av]at hx hy
    obtain⟨u,us,rfl,h1,h2⟩:=hx
    obtain⟨u',us',rfl,lq,wY⟩:=hy
    simp only[cJ]at h
    cases hc:dJ k x y with
    |none=>simp[hc]at h
    |some b=>
     cases b with
     |false=>simp[hc]at h
     |true=>
      simp only[hc]at h
      rw[pP h1 lq hc,nI h2 wY h]
theorem FB{ek:EK}{x y:T}{xv yv:Value}(jx:(∃c,ek= .one c)∨ ∃ks,ek= .flat ks)(hx:au β st.gens w M x xv)(hy:au β st.gens w M y yv)(h:mO ek x y=some true):xv=yv:=by
 rcases jx with⟨c,rfl⟩|⟨ks,rfl⟩
 ·exact pP hx hy h
 ·unfold mO at h
  split at h <;> simp_all
  rename_i xs ys
  simp only[au]at hx hy
  obtain⟨xa,rfl,lx,_⟩:=hx
  obtain⟨ya,rfl,ly,_⟩:=hy
  have:=nI lx ly h
  rw[Array.toList_inj.1 this]
theorem nJ{c:CK}{x y:T}{v:Value}(hx:au β st.gens w M x v)(hy:au β st.gens w M y v)(h:dJ c x y=some false):False:=by
 unfold dJ at h
 split at h
 ·have e:=hx.bool;rw[hy.bool]at e;cases e;simp at h
 ·split at h
  ·rename_i e;subst e
   have e:=hx.int;rw[hy.int]at e;cases e;simp at h
  ·cases h
 ·obtain⟨b1,e1,f1⟩:=hx.str
  obtain⟨b2,e2,f2⟩:=hy.str
  rw[e1]at e2;cases e2
  rw[←f1,←f2]at h;simp at h
 ·cases h
theorem mJ: ∀{ks:List CK} {xs ys:List T} {v:List Value},av β st.gens w M xs v→av β st.gens w M ys v→cJ ks xs ys=some false→False
 | [],xs,ys,v,hx,hy,h=>by
   cases xs <;> cases ys <;> simp[cJ]at h
 |k::ks,xs,ys,v,hx,hy,h=>by
  cases xs with
  |nil=>cases ys <;> simp[cJ]at h
  |cons x xs=>
   cases ys with
   |nil=>simp[cJ]at h
   |cons y ys=>
    simp only[av]at hx hy
    obtain⟨u,us,rfl,h1,h2⟩:=hx
    obtain⟨u',us',e,lq,wY⟩:=hy
    cases e
    simp only[cJ]at h
    cases hc:dJ k x y with
    |none=>simp[hc]at h
    |some b=>
     cases b with
     |false=>exact nJ h1 lq hc
     |true=>
      simp only[hc]at h
      exact mJ h2 wY h
theorem CI{ek:EK}{x y:T}{v:Value}(jx:(∃c,ek= .one c)∨ ∃ks,ek= .flat ks)(hx:au β st.gens w M x v)(hy:au β st.gens w M y v)(h:mO ek x y=some false):False:=by
 rcases jx with⟨c,rfl⟩|⟨ks,rfl⟩
 ·exact nJ hx hy h
 ·unfold mO at h
  split at h <;> simp_all
  rename_i xs ys
  simp only[au]at hx hy
  obtain⟨xa,rfl,lx,_⟩:=hx
  obtain⟨ya,e,ly,_⟩:=hy
  cases e
  exact mJ lx ly h
theorem rA{ek:EK}{k:T}: ∀{ks:List T},dY ek k ks=some none→ ∀x∈ks,mO ek k x=some false
 | [],h,x,hx=>by simp at hx
 |y::ys,h,x,hx=>by
  simp only[dY]at h
  split at h
  ·simp at h
  ·rename_i he
   simp only[Option.map_eq_some_iff]at h
   obtain⟨r,h1,h2⟩:=h
   cases r with
   |some j=>simp at h2
   |none=>
    rcases List.mem_cons.1 hx with rfl|hx
    ·exact he
    ·exact rA h1 x hx
  ·cases h
theorem PList.getV{w:World}{M:aI}: ∀{ts:List T} {vs:List Value},PList w M ts vs→ ∀{j:Nat} {v:Value},vs[j]? =some v→ ∃t,ts[j]? =some t∧PRel w M t v
 | [],vs,h,j,v,hv=>by simp only[PList]at h;subst h;simp at hv
 |x::xs,vs,h,j,v,hv=>by
  simp only[PList]at h
  obtain⟨u,us,rfl,h1,h2⟩:=h
  cases j with
  |zero=>simp at hv;subst hv;exact⟨x,rfl,h1⟩
  |succ j=>obtain⟨t,e1,e2⟩:=PList.getV h2 (j:=j) (v:=v) (by simpa using hv);exact⟨t,by simpa using e1,e2⟩
theorem Nx(h:bf B st w β M){sp:Sp}{k g:Nat}{ks vs:List T}(he:st.get sp k=⟨g,.map ks vs false⟩)(w8:Array MapEntry)(iT:Nat)(Yz:MapKept.Stamped w8 iT)(Ns kl:List T)(hk:PList w M Ns (w8.toList.map (·.key)))(hv:PList w M kl (w8.toList.map (·.val))):
  bf B (st.up (sp,k,⟨g,.map Ns kl false⟩)) (setBlock w (β sp k g).blk (.map w8 iT)) β M∧Tr st w β M (st.up (sp,k,⟨g,.map Ns kl false⟩)) (setBlock w (β sp k g).blk (.map w8 iT)) β M:=by
 have hg:st.gens sp k=g:=by show(st.get sp k).g=g;rw[he]
 have Pc:live (st.get sp k):=by rw[he];trivial
 have ho:=h.obj sp k
 rw[he]at ho
 unfold dg at ho
 obtain⟨es,clock,h1,_,h2,h3,h4⟩:=ho
 dsimp only at h1 h4
 have Je:=eN h1
 have YA:c9 w M (setBlock w (β sp k g).blk (.map w8 iT)) M:=by
  refine⟨fun b x u hu hm=> ?_,fun b es cl hu hm=> ?_,fun _ _ _ h=>h⟩
  ·by_cases CH:b=(β sp k g).blk
   ·subst CH;exact absurd (h4 rfl x) hm
   ·rw[fQ (w:=w) (by rw[cw,if_neg (fun e=>CH e.1)])];exact hu
  ·by_cases CH:b=(β sp k g).blk
   ·subst CH;exact absurd (h4 rfl 0) (hm 0)
   ·rw[cw,if_neg (fun e=>CH e.1)];exact hu
 have key:=A6 (M':=M) h sp k g (.map Ns kl false) Pc (Nat.le_of_eq hg) (.map w8 iT) (fun _ _ hm=>hm) (fun _ _ _ hm=>hm) (by rw[hg];exact YA) (h.base Pc)
 rw[hg,jW]at key
 refine key ?_
 exact⟨w8,iT,by rw[cw,if_pos ⟨rfl,Je⟩],Yz,PList.mono YA _ _ hk,PList.mono YA _ _ hv,h4⟩
include bZ h
theorem Tk{d:Nat}{t kt et:TypeId}{m k x:Operand}{m' k' x':aZ}{ek:EK}(ho:o.op= .mapUpdate t m k x)(hm:dC m=some m')(hk:dC k=some k')(hx:dC x=some x')(ht:P.underlying t=some (.map kt et))(Q9:keyOf P kt=some ek)
  (hq:(bC d st.rho (.mu ek m' k' x')).run st.get st.sh.length=some (.val v ups)):dh P B st a w β M o v ups:=by
 have vm:=bZ m m' hm
 have vk:=bZ k k' hk
 have vx:=bZ x x' hx
 simp only[bC]at hq
 split at hq
 ·rename_i sp kk g e
  rw[e]at vm;simp only[au]at vm
  simp only[Q.run]at hq
  split at hq
  ·rename_i hg
   simp at hg
   obtain⟨hg,zp⟩:=hg
   generalize he:st.get sp kk=en at*
   obtain⟨ge,ob⟩:=en
   dsimp only at hg;subst hg
   split at hq
   ·rename_i ks vs heq
    dsimp only at heq;subst heq
    simp only[Q.run_bind]at hq
    cases hz:(fz false aM (st.rho x')).run st.get st.sh.length with
    |none=>simp[hz]at hq
    |some p=>
     obtain⟨t',us⟩:=p
     simp only[hz,Option.bind_some]at hq
     split at hq
     ·rename_i q oT
      split at hq
      ·simp[Q.run]at hq
      ·rename_i hh
       simp at hh
       simp[Q.run]at hq;obtain⟨rfl,rfl⟩:=hq
       obtain⟨M',q1,q2,q3,q4,q5⟩:=pL _ st aM (st.rho x') B st w β M _ t' us _ (Fz.refl st) h vx hz
       have VU:PRel w M' t' (a.eval x):=q4
       have Jf:(st.ups us).get sp kk=⟨ge,.map ks vs false⟩:=by rw[fS st us sp kk hh];exact he
       have qq:=q1.obj sp kk
       rw[Jf]at qq
       unfold dg at qq
       obtain⟨es,clock,e2,pI,e3,e4,_⟩:=qq
       dsimp only at e2
       have IE:au β st.gens w M' (st.rho k') (a.eval k):=au.mono (cM q3) (fun _ _ _ _=>rfl) (fun _ _=>Nat.le_refl _) _ _ vk
       have IC:(Instr.checkKey false 10000 kt (a.eval k)).run P w= .ok () w:=pM (P:=P) Q9 IE zp 9998 false
       obtain⟨_,jx⟩:=zo Q9
       have kp:PRel w M' (st.rho k') (a.eval k):=by
        generalize st.rho k'=tk at*
        cases tk <;> rcases jx with⟨c,rfl⟩|⟨cs,rfl⟩ <;> (try (cases c)) <;> simp[isKey,uP]at zp
        all_goals first
         |(simp only[au]at IE;simp only[PRel];exact IE;done)
         |skip
        rename_i xs
        simp only[au]at IE
        obtain⟨arr,e5,l5,s5⟩:=IE
        simp only[PRel]
        refine⟨arr,e5, ?_,s5⟩
        have: ∀(cs:List CK) (xs:List T) (vs:List Value),iD cs xs=true→av β st.gens w M' xs vs→PList w M' xs vs:=by
         intro cs
         induction cs with
         |nil=>intro xs vs hc hv;cases xs <;> simp[iD]at hc;simpa only[av,PList]using hv
         |cons c cs ih=>
          intro xs vs hc hv
          cases xs with
          |nil=>simp[iD]at hc
          |cons x xs=>
           simp only[iD,Bool.and_eq_true]at hc
           simp only[av]at hv;simp only[PList]
           obtain⟨u,us,rfl,w1,w2⟩:=hv
           refine⟨u,us,rfl, ?_,ih xs us hc.2 w2⟩
           cases c <;> cases x <;> simp[uP]at hc <;> simp only[au]at w1 <;> simp only[PRel] <;> exact w1
        exact this _ _ _ zp l5
       have run: ∀(res:Option (Nat×Value)) (w8:Array MapEntry) (iT:Nat),(Instr.findKey kt (a.eval k) es.toList).run P w= .ok res w→
         (match res with
           |some (i,_)=>do
            let key ←Instr.keyThatStays (((es[i]?).map (fun e:MapEntry=>e.key)).getD (a.eval k)) (a.eval k)
            setObj (β sp kk ge).blk (.map (es.modify i fun e=>{e with key,val:=a.eval x}) clock)
           |none=>setObj (β sp kk ge).blk (.map (es.push {key:=a.eval k,val:=a.eval x,born:=clock}) (clock+1))).run P w= .ok () (setBlock w (β sp kk ge).blk (.map w8 iT))→
         (execOp a.eval o).run P w= .ok .skip (setBlock w (β sp kk ge).blk (.map w8 iT)):=by
        intro res w8 iT my w9
        have:(Instr.mapUpdate t (.map (some (β sp kk ge).blk)) (a.eval k) (a.eval x)).run P w= .ok () (setBlock w (β sp kk ge).blk (.map w8 iT)):=by
         unfold Instr.mapUpdate
         simp only[Sem.run_bind,run_underlying ht,Result.andThen_ok]
         have qu:(getObj (β sp kk ge).blk).run P w= .ok (.map es clock) w:=by simp[getObj,Sem.run,e2]
         simp only[qu,Result.andThen_ok,Sem.run_bind,IC,my]
         cases res with
         |none=>exact w9
         |some p=>exact w9
        simp[execOp,ho,vm.2,this]
       have w9: ∀(w8:Array MapEntry) (c':Nat),(setObj (β sp kk ge).blk (.map w8 c')).run P w= .ok () (setBlock w (β sp kk ge).blk (.map w8 c')):=by
        intro w8 c';simp[setObj,Sem.run,e2,setBlock]
       unfold nl at oT
       split at oT
       ·rename_i i hf
        simp at oT;subst oT
        obtain⟨res,r1,e,r2,r3⟩:=kq (P:=P) Q9 IE es.toList ks _ e3 hf
        obtain⟨kx,YB,Tl⟩:=wZ hf
        obtain⟨kcv,VZ,kc2⟩:=e3.get YB
        rw[List.getElem?_map,r2]at VZ
        simp at VZ
        have hsb:=uU (β:=β) (st:=st) jx IE (PRel.toV β st.gens _ _ kc2) Tl 9999
        have hei:es[i]? =some e:=by simpa using r2
        simp only[Nat.zero_add]at r3
        have hkt:(Instr.keyThatStays (((es[i]?).map (fun e:MapEntry=>e.key)).getD (a.eval k)) (a.eval k)).run P w= .ok (a.eval k) w:=by
         rw[hei];simp only[Option.map_some,Option.getD_some,VZ]
         unfold Instr.keyThatStays
         rw[if_pos hsb];rfl
        obtain⟨Th,Pe⟩:=Nx q1 Jf (es.modify i fun e=>{e with key:=a.eval k,val:=a.eval x}) clock (MapKept.stamped_modify pI i _ (fun _ _=>rfl) (fun e' _ yX=>by
         have hh:e'=e:=by rw[hei]at yX;exact(Option.some.inj yX).symm
         subst hh
         exact(FB jx IE (PRel.toV β st.gens _ _ kc2) Tl).trans VZ.symm)) (ks.set i (st.rho k')) (vs.set i t') (by
         have:=PList.set i e3 kp
         have e5:(es.modify i fun e=>{e with key:=a.eval k,val:=a.eval x}).toList.map (·.key)=(es.toList.map (·.key)).set i (a.eval k):=by
          apply List.ext_getElem?;intro j
          rw[Array.toList_modify,List.getElem?_map,List.getElem?_modify,List.getElem?_set,List.getElem?_map]
          by_cases hj:i=j
          ·subst hj;rw[r2];simp;exact(List.getElem?_eq_some_iff.1 r2).1
          ·simp[hj]
         rw[e5];exact this) (by
         have:=PList.set i e4 VU
         have e5:(es.modify i fun e=>{e with key:=a.eval k,val:=a.eval x}).toList.map (·.val)=(es.toList.map (·.val)).set i (a.eval x):=by
          apply List.ext_getElem?;intro j
          rw[Array.toList_modify,List.getElem?_map,List.getElem?_modify,List.getElem?_set,List.getElem?_map]
          by_cases hj:i=j
          ·subst hj;rw[r2];simp;exact(List.getElem?_eq_some_iff.1 r2).1
          ·simp[hj]
         rw[e5];exact this)
        refine⟨.skip,undef,_,β,M',run res _ clock r1 ?_,.inr ⟨rfl,rfl⟩,by rw[cV];exact Th,by rw[cV];exact(Tr.fz q2 q3).trans Pe (Nat.le_refl _),by rw[dc];exact Nat.le_refl _,by simp[au,bm,undef,av]⟩
        subst r3
        simp only[Sem.run_bind,hkt,Result.andThen_ok]
        exact w9 _ _
       ·rename_i hf
        simp at oT;subst oT
        obtain⟨res,r1,r2⟩:=kq (P:=P) Q9 IE es.toList ks _ e3 hf
        have:res=none:=r2
        subst this
        obtain⟨Th,Pe⟩:=Nx q1 Jf (es.push {key:=a.eval k,val:=a.eval x,born:=clock}) (clock+1) (MapKept.stamped_push pI (fun y hy yX=>by
         obtain⟨j,hj⟩:=List.getElem?_of_mem hy
         obtain⟨kx,YB,Tl⟩:=e3.getV (j:=j) (v:=y.key) (by rw[List.getElem?_map,hj];rfl)
         rw[yX]at Tl
         exact CI jx IE (PRel.toV β st.gens _ _ Tl) (rA hf _ (List.mem_of_getElem? YB)))) (ks++ [st.rho k']) (vs++ [t']) (by
         simp only[Array.toList_push,List.map_append,List.map_cons,List.map_nil]
         exact PList.append e3 (by simp only[PList];exact⟨_,_,rfl,kp,rfl⟩)) (by
         simp only[Array.toList_push,List.map_append,List.map_cons,List.map_nil]
         exact PList.append e4 (by simp only[PList];exact⟨_,_,rfl,VU,rfl⟩))
        exact⟨.skip,undef,_,β,M',run none _ (clock+1) r1 (w9 _ _),.inr ⟨rfl,rfl⟩,by rw[cV];exact Th,by rw[cV];exact(Tr.fz q2 q3).trans Pe (Nat.le_refl _),by rw[dc];exact Nat.le_refl _,by simp[au,bm,undef,av]⟩
       ·cases oT
     ·simp[Q.run]at hq
   ·simp[Q.run]at hq
  ·simp[Q.run]at hq
 ·simp[Q.run]at hq
end
end Go.Ev
namespace Go.Ev
open Go
theorem tE(oU:Nat): ∀(r c:Nat),c≤oU+(oU+768)/4→Builtin.growBy oU r c≤oU+(oU+768)/4
 |0,c,h=>by simpa[Builtin.growBy]using h
 |r+1,c,h=>by
  simp only[Builtin.growBy]
  split
  ·exact h
  ·exact tE oU r _ (by omega)
theorem Jg(qv Jc:Nat)(h:Jc<qv):Builtin.nextslicecap qv Jc≤2*qv+192:=by
 unfold Builtin.nextslicecap
 split
 ·omega
 ·split
  ·omega
  ·have:=tE qv 4 Jc (by omega)
   omega
theorem CJ{qv Jc bytes:Nat}(h:Jc<qv)(hb:qv*bytes≤1099511627776)(h0:bytes≠0):Builtin.nextslicecap qv Jc*bytes≤281474976710656:=by
 have h1:=Nat.mul_le_mul_right bytes (Jg qv Jc h)
 have h2:bytes≤qv*bytes:=Nat.le_mul_of_pos_left bytes (by omega)
 have h3:(2*qv+192)*bytes=2*(qv*bytes)+192*bytes:=by rw[Nat.add_mul,Nat.mul_assoc]
 omega
section
variable{P:Program}{B:dP}{st:St}{a:Act}{w:World}{β:aS}{M:aI}{o:Oper}{v:T}{ups:List Up}
theorem tb(h:bf B st w β M){sz nx n:Nat}{x:T}{cx:Value}{xs:List T}(vx:au β st.gens w M x cx)(hq:(bL sz x).run st.get nx=some (n,xs)):
  ∃news:List Value,(∀w':World,w'.heap=w.heap→(Builtin.lenOf cx).run P w'= .ok n w'∧(Builtin.firstCells sz n cx).run P w'= .ok news.toArray w')∧PList w M xs news∧xs.all single=true∧xs.length=n*sz:=by
 unfold bL at hq
 split at hq
 ·simp[Q.run]at hq;obtain⟨rfl,rfl⟩:=hq
  simp only[au]at vx;subst vx
  exact⟨[],fun w' _=>⟨by simp[Builtin.lenOf],by simp[Builtin.firstCells]⟩,by simp[PList],rfl,by simp⟩
 ·rename_i cs len ex
  split at hq
  ·rename_i hl
   simp[Q.run]at hq;obtain⟨rfl,rfl⟩:=hq
   simp only[au,PRel]at vx
   obtain⟨blk,off,cap,sp,rfl,h1,h2,h5,h3⟩:=vx
   obtain⟨vs,e1,e2,e3,e4⟩:=aP.load (P:=P) h3
   refine⟨vs,fun w' hw=>⟨by simp[Builtin.lenOf], ?_⟩,e3,e4,hl⟩
   have:=run_loadCells_list (P:=P) w' ⟨blk,off,sp⟩ vs (fun j u hu=>by
    rcases h5 with h5|h5
    ·subst h5
     rw[dZ]
     have:=e2 j u hu
     unfold World.cell? at this ⊢; rw[hw];exact this
    ·exfalso
     have hz:len=0:=by omega
     have h0:vs= []:=List.length_eq_zero_iff.1 (by rw[e1,hl,hz,Nat.zero_mul])
     subst h0;simp at hu)
   rw[e1,hl]at this
   simp[Builtin.firstCells,this]
  ·simp[Q.run]at hq
 ·rename_i sp k g off len jt
  split at hq
  ·rename_i kW
   subst kW
   simp only[Q.run]at hq
   split at hq
   ·rename_i hg
    have qq:=h.obj sp k
    generalize he:st.get sp k=en at*
    obtain⟨ge,ob⟩:=en
    dsimp only at hg;subst hg
    cases ob with
    |none=>simp[Q.run]at hq
    |map _ _ _=>simp[Q.run]at hq
    |cells cs wm bx=>
     cases bx with
     |true=>simp[Q.run]at hq
     |false=>
      dsimp only at hq
      split at hq
      ·rename_i hle
       simp[Q.run]at hq;obtain⟨rfl,rfl⟩:=hq
       unfold dg at qq
       obtain⟨c,el,fz,h1,h2,h3,h4,h5,h6,h7,h8⟩:=qq
       dsimp only at h1 h2 h3 h5
       simp only[au]at vx
       obtain⟨q1,cap,rfl,q2,q3⟩:=vx
       have Bc:=PList.take (len*jt) (PList.drop off h5)
       rw[List.drop_take,List.drop_drop,List.take_take]at Bc
       have YC:min (len*jt) (cs.length-off)=len*jt:=by omega
       rw[YC]at Bc
       have hlen:((cs.drop off).take (len*jt)).length=len*jt:=by simp;omega
       refine⟨(c.toList.drop ((β sp k ge).off+off)).take (len*jt),fun w' hw=>⟨by simp[Builtin.lenOf], ?_⟩,Bc,fh h7 _ _,hlen⟩
       have sM:=PList.length _ _ Bc
       rw[hlen]at sM
       have:=run_loadCells_list (P:=P) w' ⟨(β sp k ge).blk,(β sp k ge).off+off,none⟩ ((c.toList.drop ((β sp k ge).off+off)).take (len*jt)) (fun j u hu=>by
        rw[dZ]
        rw[List.getElem?_take]at hu
        split at hu
        ·rw[List.getElem?_drop]at hu
         unfold World.cell?;rw[hw,h1];simpa using hu
        ·cases hu)
       rw[←sM]at this
       simp[Builtin.firstCells,this]
      ·simp[Q.run]at hq
   ·simp[Q.run]at hq
  ·simp[Q.run]at hq
 ·rename_i l
  split at hq
  ·rename_i kW
   subst kW
   simp[Q.run]at hq;obtain⟨rfl,rfl⟩:=hq
   obtain⟨bs,rfl,rfl⟩:=vx.str
   refine⟨bs.data.toList.map fun b=> .int .u8 b.toNat,fun w' _=>⟨by simp[Builtin.lenOf,eg], ?_⟩, ?_, ?_,by simp⟩
   ·have e1:(bs.extract 0 bs.size).data=bs.data:=by
     apply Array.ext'
     rw[ByteArray.data_extract,Array.toList_extract,List.extract_eq_take_drop]
     rw[List.drop_zero]
     exact List.take_of_length_le (by show bs.data.toList.length≤bs.data.size-0;simp)
    simp only[Builtin.firstCells,eg,e1,Sem.run_pure]
    congr 1
    apply Array.ext';simp
   ·unfold cp
    rw[List.map_map]
    generalize bs.data.toList=l
    induction l with
    |nil=>simp[PList]
    |cons b l ih=>simp only[List.map_cons,PList];exact⟨_,_,rfl,by simp[PRel],ih⟩
   ·rw[List.all_eq_true];intro x hx;simp at hx;obtain⟨_,_,rfl⟩:=hx;rfl
  ·simp[Q.run]at hq
 ·simp[Q.run]at hq
theorem xb{t u ty e:TypeId}{ud:TypeDesc}{i:TypeInfo}{z:Value}(ht:P.underlying t=some (.slice e))(hu:P.underlying u=some ud)(IF:ud= .string∨ ∃e',ud= .slice e')(hi:P.info? e=some i)(hz:i.zero=some z)
  {base:Option Addr} {de fi n:Nat} {cx:Value} {nL news:List Value} (hn:(Builtin.lenOf cx).run P w= .ok n w) (tF:(Builtin.firstCells i.size n cx).run P w.drew= .ok news.toArray w.drew) (holds:(Builtin.firstCells i.size de (.slice base de fi)).run P w.drew= .ok nL.toArray w.drew)
  (hg:fi<de+n) (hb:(de+n)*i.bytes≤1099511627776) (h0:i.bytes≠0):
  (Builtin.append_ #[t,u] ty #[.slice base de fi,cx]).run P w= .ok (.slice (some ⟨w.heap.size,0,none⟩) (de+n) (grownCap w (de+n) fi e))
     (w.drew.alloc (.cells (nL.toArray++news.toArray++Builtin.zeroCells z.cells (grownCap w (de+n) fi e-(de+n))) e)):=by
 have hn': ¬(de+n≤fi):=by omega
 have dG:de+n≤(de+n)*i.bytes:=Nat.le_mul_of_pos_right _ (by omega)
 have uV: ¬(9223372036854775807<((de:Int)+(n:Int))):=by omega
 have h48: ¬(281474976710656<Builtin.nextslicecap (de+n) fi*i.bytes):=by have:=CJ hg hb h0;omega
 rcases IF with rfl|⟨e',rfl⟩ <;>
 ·simp[Builtin.append_,run_underlying ht,run_underlying hu,sizeOf,typeInfo,zeroValue,hi,hz,hn,hn',uV,h48,Question.forced,tF,holds,newRow,grownCap]
  congr 2
  apply Array.ext'
  simp[List.append_assoc]
theorem pQ{t u ty e:TypeId}{ud:TypeDesc}{i:TypeInfo}(ht:P.underlying t=some (.slice e))(hu:P.underlying u=some ud)(IF:ud= .string∨ ∃e',ud= .slice e')(hi:P.info? e=some i)
  {base:Option Addr} {de fi n:Nat} {cx:Value} {news:List Value} {w':World} (hn:(Builtin.lenOf cx).run P w= .ok n w) (tF:(Builtin.firstCells i.size n cx).run P w= .ok news.toArray w)
  (eo:de+n≤fi) (pI:match base with|some ad=>(storeCells (ad.add (de*i.size)) news).run P w= .ok () w'|none=>w'=w):
  (Builtin.append_ #[t,u] ty #[.slice base de fi,cx]).run P w= .ok (.slice base (de+n) fi) w':=by
 rcases IF with rfl|⟨e',rfl⟩ <;>
 ·cases base with
  |none=>
   dsimp only at pI;subst pI
   simp[Builtin.append_,run_underlying ht,run_underlying hu,sizeOf,typeInfo,hi,hn,eo,tF]
  |some ad=>
   dsimp only at pI
   simp[Builtin.append_,run_underlying ht,run_underlying hu,sizeOf,typeInfo,hi,hn,eo,tF,pI]
theorem Jh{bx:Bool}(h:bf B st w β M)(el:TypeId)(c:Array Value)(cs:List T)(wm:Nat)(sp:Sp)(k g:Nat)(hg:st.gens sp k<g)
  (hl:PList w M cs (c.toList.take cs.length)) (hs:cs.all single=true) (hle:cs.length≤c.size) (wW:wm≤cs.length):
  bf B (st.up (sp,k,⟨g,.cells cs wm bx⟩)) (w.alloc (.cells c el)) (fg β sp k g ⟨w.heap.size,0,c.size⟩) (fun b x=>M b x∨b=w.heap.size)∧
  Tr st w β M (st.up (sp,k,⟨g,.cells cs wm bx⟩)) (w.alloc (.cells c el)) (fg β sp k g ⟨w.heap.size,0,c.size⟩) (fun b x=>M b x∨b=w.heap.size):=by
 refine Fo h sp k g hg (.cells c el) c.size (.cells cs wm bx) ?_
 unfold dg
 simp only[bN]
 refine⟨c,el,(0,0),by rw[heap_alloc,if_pos rfl],by omega,hle,rfl, ?_,fun j _ _=>Or.inr (by trivial),hs,wW⟩
 simp only[List.drop_zero]
 exact gR.ofP (PList.mono (kj w M _) _ _ hl)
variable(bZ:iw β st.gens w M st.rho a.eval)(h:bf B st w β M)
include bZ h
theorem Pf{d:Nat}{sh nm:Bool}{c:Call}{t u e:TypeId}{ud:TypeDesc}{i:TypeInfo}{z:Value}{s x:Operand}{s' x':aZ}(ho:o.op= .call c)(hb:c.callee= .builtin .append)(gI:c.argTypes.toList= [t,u])(has:c.args.toList= [s,x])
  (ht:P.underlying t=some (.slice e)) (hu:P.underlying u=some ud) (IF:ud= .string∨ ∃e',ud= .slice e') (hi:P.info? e=some i) (hz:i.zero=some z) (kW:i.size=z.cells.size) (h0:i.size≠0) (hby:i.bytes≠0) (hs:dC s=some s') (hx:dC x=some x')
  (hq:(bC d st.rho (.app i.size i.bytes s' x' sh nm)).run st.get st.sh.length=some (.val v ups)):dh P B st a w β M o v ups:=by
 have vs:=bZ s s' hs
 have vx:=bZ x x' hx
 have dR:c.argTypes= #[t,u]:=by apply Array.ext';simp[gI]
 have exec: ∀cv w',(Builtin.append_ #[t,u] o.type #[a.eval s,a.eval x]).run P w= .ok cv w'→(execOp a.eval o).run P w= .ok (.value cv) w':=by
  intro cv w' hr
  rw[cZ ho hb,I5 has,dR]
  simp[builtin,hr]
 simp only[bC,iv,Q.run_bind]at hq
 cases pR:(bL i.size (st.rho x')).run st.get st.sh.length with
 |none=>simp[pR]at hq
 |some p=>
  obtain⟨n,xs⟩:=p
  simp only[pR,Option.bind_some]at hq
  obtain⟨news,qw,n1,n2,n3⟩:=tb (P:=P) h vx pR
  have m9:news.length=n*i.size:=by rw[←PList.length _ _ n1,n3]
  by_cases hn0:n=0
  ·rw[if_pos hn0]at hq
   subst hn0
   have tF:news= []:=by apply List.eq_nil_of_length_eq_zero;simpa using m9
   subst tF
   have same: ∀base de fi,a.eval s= .slice base de fi→de≤fi→dh P B st a w β M o (st.rho s') []:=by
    intro base de fi es hle
    refine aT h (cv:= .slice base de fi) ?_ (by rw[←es];exact vs)
    have:=pQ (P:=P) (w:=w) (w':=w) (t:=t) (u:=u) (ty:=o.type) (base:=base) (de:=de) (fi:=fi) (cx:=a.eval x) (n:=0) (news:= []) ht hu IF hi (qw w rfl).1 (qw w rfl).2 (by omega) (by cases base <;> simp[storeCells])
    exact exec _ _ (by rw[es];exact this)
   split at hq
   ·rename_i es
    simp[Q.run]at hq;obtain⟨rfl,rfl⟩:=hq
    have kl:=vs;rw[es]at kl;simp only[au]at kl
    exact same _ _ _ kl (Nat.le_refl _)
   ·rename_i cs len ex es
    simp[Q.run]at hq;obtain⟨rfl,rfl⟩:=hq
    have kl:=vs;rw[es]at kl;simp only[au,PRel]at kl
    obtain⟨blk,off,cap,sp,e1,e2,_⟩:=kl
    exact same _ _ _ e1 e2
   ·rename_i sp k g off len sz es
    simp[Q.run]at hq;obtain⟨rfl,rfl⟩:=hq
    have kl:=vs;rw[es]at kl;simp only[au]at kl
    obtain⟨_,cap,e1,e2,_⟩:=kl
    exact same _ _ _ e1 e2
   ·simp[Q.run]at hq
  ·rw[if_neg hn0]at hq
   have FC:z.cells.size≠0:=by omega
   have grow: ∀(bx:Bool) (base:Option Addr) (de fi:Nat) (nL:List Value) (os:List T) (sp:Sp) (k g wm:Nat),a.eval s= .slice base de fi→fi<de+n→(de+n)*i.bytes≤1099511627776→PList w M os nL→os.all single=true→os.length=de*i.size→
     (Builtin.firstCells i.size de (.slice base de fi)).run P w.drew= .ok nL.toArray w.drew→st.gens sp k<g→wm≤os.length→dh P B st a w β M o (.isl sp k g 0 (de+n) i.size) [(sp,k,⟨g,.cells (os++xs) wm bx⟩)]:=by
    intro bx base de fi nL os sp k g wm es dG eo ho1 ho2 ho3 hfc hg wW
    have hr:=xb (P:=P) (w:=w) (t:=t) (u:=u) (ty:=o.type) (base:=base) (de:=de) (fi:=fi) (cx:=a.eval x) (n:=n) (nL:=nL) (news:=news) ht hu IF hi hz (qw w rfl).1 (qw w.drew rfl).2 hfc dG eo hby
    obtain⟨hd1,hd2⟩:=A5 h (w.drawn+1)
    have YD:nL.length=de*i.size:=by rw[←PList.length _ _ ho1,ho3]
    have sY:=grownCap_ge w (de+n) fi e
    have fF:(nL.toArray++news.toArray++Builtin.zeroCells z.cells (grownCap w (de+n) fi e-(de+n))).size=grownCap w (de+n) fi e*i.size:=by
     rw[Array.size_append,Array.size_append,size_zeroCells]
     simp only[List.size_toArray,YD,m9,←kW]
     rw[←Nat.add_mul,←Nat.add_mul];congr 1;omega
    have hlen:(os++xs).length=nL.length+news.length:=by simp[ho3,n3,YD,m9]
    obtain⟨r1,r2⟩:=Jh (bx:=bx) hd1 e (nL.toArray++news.toArray++Builtin.zeroCells z.cells (grownCap w (de+n) fi e-(de+n))) (os++xs) wm sp k g hg (by
     have:(nL.toArray++news.toArray++Builtin.zeroCells z.cells (grownCap w (de+n) fi e-(de+n))).toList.take (os++xs).length=nL++news:=by
      rw[hlen]
      simp only[Array.toList_append,List.toList_toArray]
      rw[List.take_append_of_le_length (by simp)]
      exact List.take_of_length_le (by simp)
     rw[this]
     exact PList.mono hd2.keep _ _ (PList.append ho1 n1)) (by simp only[List.all_append,Bool.and_eq_true];exact⟨ho2,n2⟩) (by
     rw[fF,hlen,YD,m9,←Nat.add_mul];exact Nat.mul_le_mul_right _ sY) (by simp;omega)
    refine⟨_,_,_,_,_,exec _ _ (by rw[es];exact hr),.inl rfl,r1,hd2.trans r2 (Nat.le_refl _), ?_, ?_⟩
    ·show w.heap.size≤(w.heap.push _).size;simp
    ·simp only[au]
     refine⟨by simp[St.ups,du],grownCap w (de+n) fi e, ?_,sY, ?_⟩
     ·rw[bN]
     ·rw[bN,fF];exact Nat.le_of_eq (Nat.zero_add _)
   split at hq
   ·rename_i es
    rw[es]at vs;simp only[au]at vs
    split at hq
    ·rename_i eo
     unfold roomy at eo
     obtain⟨sp,k,g,rfl,rfl,hg,_⟩:=gq hq
     have:=grow nm none 0 0 [] [] sp k g 0 vs (by omega) (by simpa using eo) (by simp[PList]) rfl (by simp) (by simp[Builtin.firstCells]) hg (Nat.zero_le _)
     simpa using this
    ·simp[Q.run]at hq
   ·rename_i cs len es
    rw[es]at vs;simp only[au,PRel]at vs
    obtain⟨blk,off,cap,cu,e1,e2,e3,e5,e4⟩:=vs
    have:=e3 trivial;subst this
    split at hq
    ·rename_i eo
     simp at eo
     unfold roomy at eo
     obtain⟨sp,k,g,rfl,rfl,hg,_⟩:=gq hq
     obtain⟨ol,f1,f2,f3,f4⟩:=aP.load (P:=P) e4
     refine grow false _ _ _ ol cs sp k g 0 e1 (by omega) eo.2 f3 f4 eo.1 ?_ hg (Nat.zero_le _)
     have:=run_loadCells_list (P:=P) w.drew ⟨blk,off,cu⟩ ol (fun j u hu=>by
      rcases e5 with e5|e5
      ·subst e5
       rw[dZ];have:=f2 j u hu;unfold World.cell? at this ⊢; exact this
      ·exfalso
       have h0:ol= []:=List.length_eq_zero_iff.1 (by rw[f1,eo.1,e5,Nat.zero_mul])
       subst h0;simp at hu)
     rw[f1,eo.1]at this
     simp[Builtin.firstCells,this]
    ·simp[Q.run]at hq
   ·rename_i sp k g off len sz es
    rw[es]at vs;simp only[au]at vs
    obtain⟨q1,cap,e1,e2,e3⟩:=vs
    split at hq
    ·rename_i eo
     simp at eo
     unfold roomy at eo
     obtain⟨⟨rfl,rfl⟩,eo⟩:=eo
     simp only[Q.run]at hq
     split at hq
     ·rename_i hg
      have qq:=h.obj sp k
      generalize he:st.get sp k=en at*
      obtain⟨ge,ob⟩:=en
      dsimp only at hg;subst hg
      cases ob with
      |none=>simp[Q.run]at hq
      |map _ _ _=>simp[Q.run]at hq
      |cells cs wm bx=>
       cases bx with
       |true=>simp[Q.run]at hq
       |false=>
        dsimp only at hq
        split at hq
        ·rename_i hlen
         simp[Q.run]at hq;obtain⟨rfl,rfl⟩:=hq
         unfold dg at qq
         obtain⟨cc,el,fz,h1,h2,h3,h4,h5,h6,h7,h8⟩:=qq
         dsimp only at h1 h2 h3 h4 h5 h6
         subst h4
         have Bj:st.gens sp k=ge:=by show(st.get sp k).g=ge;rw[he]
         by_cases Pg:len+n≤cap
         ·have Tm:(len+n)*i.size≤cap*i.size:=Nat.mul_le_mul_right _ Pg
          rw[Nat.add_mul]at Tm
          have Pd:=av.one (PList.toV β st.gens _ _ n1) n2
          have pI:=run_storeCells_at P (β sp k ge).blk ((β sp k ge).off+len*i.size) el news 0 cc w h1 (by omega) Pd
          rw[kY h1]at pI
          simp only[Nat.add_zero]at pI
          rw[zt _ _ _ (by simp;omega)]at pI
          have hr:=pQ (P:=P) (w:=w) (t:=t) (u:=u) (ty:=o.type) (base:=some ⟨(β sp k ge).blk,(β sp k ge).off+0,none⟩) (de:=len) (fi:=cap) (cx:=a.eval x) (n:=n) (news:=news) ht hu IF hi (qw w rfl).1 (qw w rfl).2 Pg (by
           dsimp only;rw[dZ];simpa using pI)
          have key:=rz h he (ge+1) (Nat.le_succ _) h1 (len*i.size) news (cs++xs) (by omega) (by omega) (by simp) (by simp[n3];omega) (by simp only[List.all_append,Bool.and_eq_true];exact⟨h7,n2⟩) (by
           show PList w M _ _
           have h5:PList w M cs _:=h5
           have:(splice (cc.toList.drop (β sp k ge).off) (len*i.size) news).take (cs++xs).length=(cc.toList.drop (β sp k ge).off).take cs.length++news:=by
            rw[←zt _ _ _ (by simp;omega),hlen,List.take_append_of_le_length (by simp[n3,m9];omega)]
            exact List.take_of_length_le (by simp[n3,m9];omega)
           rw[this]
           exact PList.append h5 n1)
          refine⟨_,_,_,_,_,exec _ _ (by rw[e1];exact hr),.inl rfl,key.1,key.2,by rw[dc];exact Nat.le_refl _, ?_⟩
          simp only[au]
          refine⟨by simp[St.ups,du],cap,by rw[bN],Pg,by rw[bN];exact e3⟩
         ·have Bc:PList w M cs ((cc.toList.drop (β sp k ge).off).take cs.length):=h5
          refine grow false _ len cap ((cc.toList.drop (β sp k ge).off).take cs.length) cs sp k (ge+1) wm e1 (by omega) eo Bc h7 hlen.symm ?_ (by rw[Bj];omega) h8
          have sM:=PList.length _ _ Bc
          have:=run_loadCells_list (P:=P) w.drew ⟨(β sp k ge).blk,(β sp k ge).off+0,none⟩ ((cc.toList.drop (β sp k ge).off).take cs.length) (fun j u hu=>by
           rw[dZ]
           rw[List.getElem?_take]at hu
           split at hu
           ·rw[List.getElem?_drop]at hu
            unfold World.cell?
            show(match w.heap[(β sp k ge).blk]? with|some (.cells c _ _)=>if(none:Option Nat).isSome then none else c[(β sp k ge).off+0+j]? |_=>none)=some u
            rw[h1];simpa using hu
           ·cases hu)
          rw[←sM]at this
          simp only[Builtin.firstCells]
          rw[hlen]
          exact this
        ·simp[Q.run]at hq
     ·simp[Q.run]at hq
    ·simp[Q.run]at hq
   ·simp[Q.run]at hq
end
end Go.Ev
namespace Go.Ev
open Go
section
variable{P:Program}{B:dP}{st:St}{a:Act}{w:World}{β:aS}{M:aI}{o:Oper}{v:T}{ups:List Up}
theorem iU{x:Option T}{h:Sp→Nat→aA}{nx:Nat}(hq:(Ev.val x).run h nx=some (.val v ups)):x=some v∧ups= []:=by
 cases x with
 |none=>simp[Ev.val,Q.run]at hq
 |some y=>simp[Ev.val,Q.run]at hq;obtain⟨rfl,rfl⟩:=hq;exact⟨rfl,rfl⟩
theorem Ji(bZ:iw β st.gens w M st.rho a.eval)(h:bf B st w β M){c:Call}(ho:o.op= .call c){sh:Nat}{xc:k7}{d:Nat}(hc:jU P sh c=some xc)
  (hq:(bC d st.rho xc).run st.get st.sh.length=some (.val v ups)):dh P B st a w β M o v ups:=by
 unfold jU at hc
 split at hc
 ·simp only[Option.map_eq_some_iff]at hc
  obtain⟨as,_,rfl⟩:=hc
  simp[bC,Q.run]at hq
 ·split at hc
  ·simp at hc;subst hc
   simp[bC,Q.run]at hq
  ·cases hc
 ·rename_i hb
  split at hc
  ·rename_i t x h1 h2
   split at hc
   ·rename_i y h3 h4;simp at hc;subst hc;exact I6 bZ h ho hb h1 h2 h3 h4 hq
   ·rename_i e y h3 h4;simp at hc;subst hc;exact I7 bZ h ho hb h1 h2 h3 h4 hq
   ·rename_i e e' y h3 h4;simp at hc;subst hc;exact I8 bZ h ho hb h1 h2 h3 h4 hq
   ·rename_i n e y h3 h4;simp at hc;subst hc
    simp[bC,Q.run]at hq;obtain⟨rfl,rfl⟩:=hq
    exact I9 h ho hb h1 h2 h3
   ·cases hc
  ·cases hc
 ·rename_i hb
  split at hc
  ·rename_i t u x y h1 h2
   split at hc
   ·rename_i e ud x' y' h3 h4 h5 h6
    have fin: ∀(IF:ud= .string∨ ∃e',ud= .slice e'),(match P.info? e with
     |some i=>(match i.zero with
      |some z=>if i.size=z.cells.size&&i.size != 0&&i.bytes != 0 then some (k7.app i.size i.bytes x' y' (sh==1) (sh==2))else none
      |none=>none)
     |none=>none)=some xc→dh P B st a w β M o v ups:=by
     intro IF hc
     split at hc
     ·rename_i i hi
      split at hc
      ·rename_i z hz
       split at hc
       ·rename_i kg
        simp at kg hc;subst hc
        exact Pf bZ h ho hb h1 h2 h3 h4 IF hi hz kg.1.1 kg.1.2 kg.2 h5 h6 hq
       ·cases hc
      ·cases hc
     ·cases hc
    split at hc
    ·rename_i e';exact fin (.inr ⟨e',rfl⟩) hc
    ·exact fin (.inl rfl) hc
    ·cases hc
   ·cases hc
  ·cases hc
 ·rename_i hb
  simp only[Option.map_eq_some_iff]at hc
  obtain⟨as,h1,rfl⟩:=hc
  exact Nr (isMax:=false) bZ h ho hb h1 hq
 ·rename_i hb
  simp only[Option.map_eq_some_iff]at hc
  obtain⟨as,h1,rfl⟩:=hc
  exact Nr (isMax:=true) bZ h ho hb h1 hq
 ·cases hc
theorem Tn(bZ:iw β st.gens w M st.rho a.eval)(h:bf B st w β M){sh:Nat}{xc:k7}{d:Nat}(hc:cj P sh o.op=some xc)
  (hq:(bC d st.rho xc).run st.get st.sh.length=some (.val v ups)):dh P B st a w β M o v ups:=by
 cases eI:o.op with
 |move x=>
  rw[eI]at hc;simp only[cj,Option.map_eq_some_iff]at hc
  obtain⟨y,h1,rfl⟩:=hc
  simp[bC,Q.run]at hq;obtain⟨rfl,rfl⟩:=hq
  exact Nq bZ h (.inl eI) h1
 |assign x=>
  rw[eI]at hc;simp only[cj,Option.map_eq_some_iff]at hc
  obtain⟨y,h1,rfl⟩:=hc
  simp[bC,Q.run]at hq;obtain⟨rfl,rfl⟩:=hq
  exact Nq bZ h (.inr eI) h1
 |pick c x y=>
  rw[eI]at hc;simp only[cj]at hc
  split at hc
  ·rename_i c' x' y' h1 h2 h3
   simp at hc;subst hc
   simp only[bC]at hq
   split at hq <;> simp[Q.run]at hq
   ·rename_i e;obtain⟨rfl,rfl⟩:=hq;exact Ba (bb:=true) bZ h eI h1 h2 h3 e
   ·rename_i e;obtain⟨rfl,rfl⟩:=hq;exact Ba (bb:=false) bZ h eI h1 h2 h3 e
  ·cases hc
 |alloc t=>
  rw[eI]at hc;simp only[cj]at hc
  split at hc
  ·rename_i z hz
   split at hc
   ·rename_i hn;simp at hc;subst hc;exact Fw h eI hz hn hq
   ·cases hc
  ·cases hc
 |box t x=>
  rw[eI]at hc;simp only[cj,Option.map_eq_some_iff]at hc
  obtain⟨y,h1,rfl⟩:=hc
  exact O7 bZ h eI h1 hq
 |build t ps=>
  rw[eI]at hc;simp only[cj]at hc
  split at hc
  ·rename_i z fs hz hu
   split at hc
   ·rename_i fb hp
    split at hc
    ·rename_i hn
     simp only[Option.map_eq_some_iff]at hc
     obtain⟨r,h1,rfl⟩:=hc
     exact wT bZ h eI hz (.inl ⟨fs,fb,hu,hp,h1⟩) hn hq
    ·cases hc
   ·cases hc
  ·rename_i z n e hz hu
   split at hc
   ·rename_i sz hs
    split at hc
    ·rename_i hn
     simp only[Option.map_eq_some_iff]at hc
     obtain⟨r,h1,rfl⟩:=hc
     exact wT bZ h eI hz (.inr ⟨n,e,sz,hu,hs,h1⟩) hn hq
    ·cases hc
   ·cases hc
  ·cases hc
 |buildSlice t len ps=>
  rw[eI]at hc;simp only[cj]at hc
  split at hc
  ·rename_i e hu
   split at hc
   ·rename_i z n r hz hn hr
    split at hc
    ·rename_i kg
     simp at kg hc;subst hc
     exact Pa bZ h eI hu hz hn hr kg.1.1.1 kg.1.1.2 kg.1.2 kg.2 hq
    ·cases hc
   ·cases hc
  ·cases hc
 |load t x=>
  rw[eI]at hc;simp only[cj]at hc
  split at hc
  ·rename_i y n ag h1 h2 h3;simp at hc;subst hc;exact S3 bZ h eI h1 h2 h3 hq
  ·cases hc
 |store t x y=>
  rw[eI]at hc;simp only[cj]at hc
  split at hc
  ·rename_i y n ag h1 h2 h3;simp at hc;subst hc;exact Tg bZ h eI h1 h2 h3 hq
  ·cases hc
 |nilCheck x=>
  rw[eI]at hc;simp only[cj,Option.map_eq_some_iff]at hc
  obtain⟨y,h1,rfl⟩:=hc
  exact OT bZ h eI h1 hq
 |binOp op t x y t'=>
  rw[eI]at hc;simp only[cj]at hc
  split at hc
  ·rename_i x' y' h1 h2
   split at hc
   ·rename_i hk
    simp at hc;subst hc
    obtain⟨e1,rfl⟩:=iU hq
    simp only[Option.map_eq_some_iff]at e1
    obtain⟨r,e2,rfl⟩:=e1
    exact Bg (neg:=false) bZ h eI h1 h2 (by have:=lD hk;simp[ra,this]) (by simp) e2
   ·rename_i hk
    simp at hc;subst hc
    obtain⟨e1,rfl⟩:=iU hq
    simp only[Option.map_eq_some_iff]at e1
    obtain⟨r,e2,rfl⟩:=e1
    exact Bg (neg:=true) bZ h eI h1 h2 (by have:=lD hk;simp[ra,this]) (by simp) e2
   ·simp at hc;subst hc
    obtain⟨e1,rfl⟩:=iU hq
    exact OU bZ h eI h1 h2 e1
   ·rename_i hk
    simp only[Option.map_eq_some_iff]at hc
    obtain⟨k,h3,rfl⟩:=hc
    obtain⟨e1,rfl⟩:=iU hq
    simp only[Option.map_eq_some_iff]at e1
    obtain⟨r,e2,rfl⟩:=e1
    refine Bg (neg:=false) bZ h eI h1 h2 h3 ?_ e2
    have fF:=gS h3
    refine⟨fun e=> ?_,fun e=> ?_⟩ <;> subst e <;> simp only at fF <;> rw[fF]at hk <;> simp at hk
   ·rename_i hk
    simp only[Option.map_eq_some_iff]at hc
    obtain⟨k,h3,rfl⟩:=hc
    obtain⟨e1,rfl⟩:=iU hq
    simp only[Option.map_eq_some_iff]at e1
    obtain⟨r,e2,rfl⟩:=e1
    refine Bg (neg:=true) bZ h eI h1 h2 h3 ?_ e2
    have fF:=gS h3
    refine⟨fun e=> ?_,fun e=> ?_⟩ <;> subst e <;> simp only at fF <;> rw[fF]at hk <;> simp at hk
   ·cases hc
  ·cases hc
 |unOp op t x=>
  rw[eI]at hc;simp only[cj,Option.map_eq_some_iff]at hc
  obtain⟨y,h1,rfl⟩:=hc
  obtain⟨e1,rfl⟩:=iU hq
  exact S1 bZ h eI h1 e1
 |convert s t x=>
  rw[eI]at hc;simp only[cj]at hc
  split at hc
  ·rename_i ks k y h1 h2 h3
   simp at hc;subst hc
   simp only[bC]at hq
   split at hq
   ·rename_i k' n e
    simp[Q.run]at hq;obtain⟨rfl,rfl⟩:=hq
    exact OW bZ h eI h3 ⟨ks,h1⟩ h2 e
   ·simp[Q.run]at hq
  ·cases hc
 |makeFunc fn first cap=>
  rw[eI]at hc
  cases fn <;> simp only[cj]at hc <;> try (cases hc;done)
  split at hc
  ·rename_i f as cs h1 h2
   simp at hc;subst hc
   simp[bC,Q.run]at hq;obtain⟨rfl,rfl⟩:=hq
   exact I3 bZ h eI h1 h2
  ·cases hc
 |makeMap t r=>
  rw[eI]at hc
  cases r <;> simp only[cj]at hc
  ·simp at hc;subst hc;exact Fx h eI hq
  ·cases hc
 |makeSlice t l c=>
  rw[eI]at hc;simp only[cj]at hc
  split at hc
  ·rename_i e hu
   split at hc
   ·rename_i i z y h1 h2 h3
    split at hc
    ·rename_i kg
     simp at kg hc;subst hc
     exact Ja bZ h eI hu h1 h2 h3 kg.1.1.2 kg.1.1.1 kg.1.2 kg.2 hq
    ·cases hc
   ·cases hc
  ·cases hc
 |slice t x l hh m=>
  rw[eI]at hc;simp only[cj]at hc
  split at hc
  ·rename_i y l' h' h1 h2 h3 h4 h5
   simp at hc;subst hc
   have hm:m=none:=by cases m <;> simp[k9]at h5 ⊢
   subst hm
   exact O2 bZ h eI h2 h3 h4 h1 hq
  ·rename_i e y l' h' m' h1 h2 h3 h4 h5
   split at hc
   ·rename_i n hn
    split at hc
    ·rename_i kg
     simp at kg hc;subst hc
     refine O3 bZ h eI h2 h3 h4 h5 h1 hn kg.1 ?_ hq
     intro hm
     rcases kg.2 with e1|e1
     ·cases m with
      |none=>simp at hm
      |some mm=>simp only[k9,Option.map_eq_some_iff]at h5;obtain⟨_,_,rfl⟩:=h5;simp at e1
     ·cases hh with
      |none=>simp[k9]at h4;subst h4;simp at e1
      |some _=>rfl
    ·cases hc
   ·cases hc
  ·cases hc
 |fieldAddr s x f=>
  rw[eI]at hc;simp only[cj]at hc
  split at hc
  ·rename_i fs y h1 h2
   split at hc
   ·rename_i fd h3
    split at hc
    ·rename_i n h4
     split at hc
     ·rename_i h5;simp at h5 hc;subst hc;exact S4 bZ h eI h2 h1 h3 h4 h5 hq
     ·cases hc
    ·cases hc
   ·cases hc
  ·cases hc
 |field s x f=>
  rw[eI]at hc;simp only[cj]at hc
  split at hc
  ·rename_i fs y h1 h2
   split at hc
   ·rename_i fd h3
    split at hc
    ·rename_i n ag h4 h5
     simp at hc;subst hc;exact OY bZ h eI h2 h1 h3 h4 h5 hq
    ·cases hc
   ·cases hc
  ·cases hc
 |indexAddr t x j=>
  rw[eI]at hc;simp only[cj]at hc
  split at hc
  ·rename_i e y j' h1 h2 h3
   split at hc
   ·rename_i n hn
    split at hc
    ·simp at hc;subst hc;exact S5 bZ h eI h2 h3 h1 hn hq
    ·cases hc
   ·cases hc
  ·rename_i len e y j' h1 h2 h3
   split at hc
   ·rename_i n hn
    split at hc
    ·simp at hc;subst hc;exact O1 bZ h eI h2 h3 h1 hn hq
    ·cases hc
   ·cases hc
  ·cases hc
 |index t x j=>
  rw[eI]at hc;simp only[cj]at hc
  split at hc
  ·rename_i y j' h1 h2 h3;simp at hc;subst hc;exact O0 bZ h eI h2 h3 h1 hq
  ·rename_i len e y j' h1 h2 h3
   split at hc
   ·rename_i n ag hn ha;simp at hc;subst hc;exact OZ bZ h eI h2 h3 h1 hn ha hq
   ·cases hc
  ·cases hc
 |lookup t m k ok=>
  rw[eI]at hc;simp only[cj]at hc
  split at hc
  ·rename_i kt et m' k' h1 h2 h3
   split at hc
   ·rename_i ek z h4 h5;simp at hc;subst hc;exact Tj bZ h eI h2 h3 h1 h4 h5 hq
   ·cases hc
  ·cases hc
 |mapUpdate t m k x=>
  rw[eI]at hc;simp only[cj]at hc
  split at hc
  ·rename_i kt et m' k' x' h1 h2 h3 h4
   simp only[Option.map_eq_some_iff]at hc
   obtain⟨ek,h5,rfl⟩:=hc
   exact Tk bZ h eI h2 h3 h4 h1 h5 hq
  ·cases hc
 |extract x j=>
  rw[eI]at hc;simp only[cj,Option.map_eq_some_iff]at hc
  obtain⟨y,h1,rfl⟩:=hc
  simp only[bC]at hq
  split at hq
  ·rename_i vs e
   obtain⟨e1,rfl⟩:=iU hq
   exact OX bZ h eI h1 e e1
  ·simp[Q.run]at hq
 |call c=>rw[eI]at hc;simp only[cj]at hc;exact Ji bZ h eI hc hq
 |_=>rw[eI]at hc;simp[cj]at hc
end
end Go.Ev
