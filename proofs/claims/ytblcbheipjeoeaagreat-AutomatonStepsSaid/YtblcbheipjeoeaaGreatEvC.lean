/- A tree evaluator over the model, proved against it (part C): where it answers, the call returns that answer. Conditions: none beyond its theorems' own. -/
import Derived.Test.YtblcbheipjeoeaaGreatEvB
import Derived.Laws.Tables
set_option linter.unusedSimpArgs false
set_option linter.unusedVariables false
namespace Go.Ev
open Go
theorem wo{P:Program}{t:TypeId}{z:T}(h:rI P t=some z): ∃i zv,P.info? t=some i∧i.zero=some zv∧Ae zv=some z:=by
 unfold rI at h
 cases hi:P.info? t with
 |none=>simp[hi]at h
 |some i=>
  simp only[hi,Option.bind_some]at h
  cases hz:i.zero with
  |none=>simp[hz]at h
  |some zv=>simp only[hz,Option.bind_some]at h;exact⟨i,zv,rfl,hz,h⟩
theorem CA{P:Program}{t:TypeId}{z:T}(h:rI P t=some z)(w:World): ∃zv,(zeroValue t).run P w= .ok zv w∧ ∀w M,PRel w M z zv:=by
 obtain⟨i,zv,h1,h2,h3⟩:=wo h
 exact⟨zv,by simp[zeroValue,typeInfo,h1,h2],fun w M=>qh h3⟩
theorem sy{β:fS}{G:Sp→Nat→Nat}{w:World}{M:fE}{t:T}{cv:Value}(h:fk β G w M t cv)(hn:noTup t=true):fo β G w M (cellsOf t) cv.cells.toList∧(cellsOf t).all single=true:=by
 cases t
 case agg cs=>
  simp only[fk]at h
  obtain⟨a,rfl,h1,h2⟩:=h
  exact⟨h1,h2⟩
 case tup cs=>simp[noTup]at hn
 case any=>simp[noTup]at hn
 all_goals
  have h':=h
  simp only[fk,PRel]at h
  refine⟨?_,rfl⟩
  simp only[cellsOf,fo]
  refine⟨cv,[], ?_,h',rfl⟩
  first
   |(subst h;rfl)
   |(obtain⟨_,rfl,_⟩:=h;rfl)
   |(obtain⟨_,_,rfl,_⟩:=h;rfl)
   |(obtain⟨_,_,_,rfl,_⟩:=h;rfl)
   |(obtain⟨_,_,_,_,rfl,_⟩:=h;rfl)
   |(obtain⟨_,rfl⟩:=h;rfl)
theorem wq{w:World}{M:fE}{t:T}{cv:Value}(h:PRel w M t cv)(hn:noTup t=true):PList w M (cellsOf t) cv.cells.toList∧(cellsOf t).all single=true:=by
 cases t
 case agg cs=>
  simp only[PRel]at h
  obtain⟨a,rfl,h1,h2⟩:=h
  exact⟨h1,h2⟩
 case tup cs=>simp[noTup]at hn
 case any=>simp[noTup]at hn
 case isl=>simp only[PRel]at h
 case ptr=>simp only[PRel]at h
 case mp=>simp only[PRel]at h
 all_goals
  have h':=h
  simp only[PRel]at h
  refine⟨?_,rfl⟩
  simp only[cellsOf,PList]
  refine⟨cv,[], ?_,h',rfl⟩
  first
   |(subst h;rfl)
   |(obtain⟨_,rfl,_⟩:=h;rfl)
   |(obtain⟨_,_,rfl,_⟩:=h;rfl)
   |(obtain⟨_,_,_,rfl,_⟩:=h;rfl)
   |(obtain⟨_,_,_,_,rfl,_⟩:=h;rfl)
theorem iz{α:Type}: ∀(cs:List α) (off:Nat) (vs:List α),(splice cs off vs).length=cs.length
 |cs,0,[]=>by cases cs <;> simp[splice]
 | [],0,v::vs=>by simp[splice]
 |c::cs,0,v::vs=>by simp[splice,iz cs 0 vs]
 | [],off+1,vs=>by simp[splice]
 |c::cs,off+1,vs=>by simp[splice,iz cs off vs]
theorem mO{α:Type}: ∀(cs:List α) (off:Nat),splice cs off []=cs
 |cs,0=>by cases cs <;> simp[splice]
 | [],off+1=>by simp[splice]
 |c::cs,off+1=>by simp[splice,mO cs off]
theorem yy{α:Type}: ∀(cs:List α) (off:Nat) (v:α) (vs:List α),splice (cs.set off v) (off+1) vs=splice cs off (v::vs)
 | [],off,v,vs=>by cases off <;> simp[splice]
 |c::cs,0,v,vs=>by simp[splice]
 |c::cs,off+1,v,vs=>by simp[splice,yy cs off v vs]
theorem jt{α:Type}: ∀(cs:List α) (off:Nat) (vs:List α) (j:Nat),(splice cs off vs)[j]? =if off≤j∧j<off+vs.length∧j<cs.length then vs[j-off]? else cs[j]?
 |cs,0,[],j=>by rw[mO];simp
 | [],0,v::vs,j=>by simp[splice]
 |c::cs,0,v::vs,0=>by simp[splice]
 |c::cs,0,v::vs,j+1=>by simp[splice,jt cs 0 vs j]
 | [],off+1,vs,j=>by simp[splice]
 |c::cs,off+1,vs,0=>by simp[splice]
 |c::cs,off+1,vs,j+1=>by
  simp only[splice,List.getElem?_cons_succ,jt cs off vs j,List.length_cons]
  have e:j+1-(off+1)=j-off:=by omega
  rw[e]
  by_cases hc:off≤j∧j<off+vs.length∧j<cs.length
  ·rw[if_pos hc,if_pos (by omega)]
  ·rw[if_neg hc,if_neg (by omega)]
theorem fo.splice{β:fS}{G:Sp→Nat→Nat}{w:World}{M:fE}: ∀{cs:List T} {vP:List Value} {off:Nat} {vs:List T} {H6:List Value},fo β G w M cs vP→fo β G w M vs H6→fo β G w M (splice cs off vs) (splice vP off H6)
 |cs,vP,0,[],H6,h1,h2=>by simp only[fo]at h2;subst h2;rw[mO,mO];exact h1
 | [],vP,0,v::vs,H6,h1,h2=>by simp only[fo]at h1;subst h1;obtain⟨u,us,rfl,_⟩:=h2;simp[Ev.splice,fo]
 |c::cs,vP,0,v::vs,H6,h1,h2=>by
  simp only[fo]at h1 h2
  obtain⟨a,as,rfl,p1,p2⟩:=h1
  obtain⟨u,us,rfl,q1,q2⟩:=h2
  simp only[Ev.splice,fo]
  exact⟨u,_,rfl,q1,fo.splice p2 q2⟩
 | [],vP,off+1,vs,H6,h1,h2=>by simp only[fo]at h1;subst h1;simp[Ev.splice,fo]
 |c::cs,vP,off+1,vs,H6,h1,h2=>by
  simp only[fo]at h1
  obtain⟨a,as,rfl,p1,p2⟩:=h1
  simp only[Ev.splice,fo]
  exact⟨a,_,rfl,p1,fo.splice p2 h2⟩
theorem PList.splice{w:World}{M:fE}: ∀{cs:List T} {vP:List Value} {off:Nat} {vs:List T} {H6:List Value},PList w M cs vP→PList w M vs H6→PList w M (splice cs off vs) (splice vP off H6)
 |cs,vP,0,[],H6,h1,h2=>by simp only[PList]at h2;subst h2;rw[mO,mO];exact h1
 | [],vP,0,v::vs,H6,h1,h2=>by simp only[PList]at h1;subst h1;obtain⟨u,us,rfl,_⟩:=h2;simp[Ev.splice,PList]
 |c::cs,vP,0,v::vs,H6,h1,h2=>by
  simp only[PList]at h1 h2
  obtain⟨a,as,rfl,p1,p2⟩:=h1
  obtain⟨u,us,rfl,q1,q2⟩:=h2
  simp only[Ev.splice,PList]
  exact⟨u,_,rfl,q1,PList.splice p2 q2⟩
 | [],vP,off+1,vs,H6,h1,h2=>by simp only[PList]at h1;subst h1;simp[Ev.splice,PList]
 |c::cs,vP,off+1,vs,H6,h1,h2=>by
  simp only[PList]at h1
  obtain⟨a,as,rfl,p1,p2⟩:=h1
  simp only[Ev.splice,PList]
  exact⟨a,_,rfl,p1,PList.splice p2 h2⟩
theorem sA{p:T→Bool}{cs vs:List T}{off:Nat}(h1:cs.all p=true)(h2:vs.all p=true):(splice cs off vs).all p=true:=by
 rw[List.all_eq_true]at*
 intro x hx
 obtain⟨j,hj⟩:=List.getElem?_of_mem hx
 rw[jt]at hj
 split at hj
 ·exact h2 x (List.mem_of_getElem? hj)
 ·exact h1 x (List.mem_of_getElem? hj)
theorem xI(off:Nat): ∀(vs:List Value) (s:Nat) (cells:Array Value),((vs.zipIdx s).foldl (fun(cs:Array Value) (p:Value×Nat)=>cs.setIfInBounds (off+p.2) p.1) cells).toList=splice cells.toList (off+s) vs
 | [],s,cells=>by simp[mO]
 |v::vs,s,cells=>by
  simp only[List.zipIdx_cons,List.foldl_cons]
  rw[xI off vs (s+1),Array.toList_setIfInBounds,←Nat.add_assoc,yy]
theorem J6{β:fS}{G:Sp→Nat→Nat}{w:World}{M:fE}{place:Nat→Option (Nat×Nat)}: ∀(parts:List (Nat×Value)) (ps:List (Nat×List T)) (zs:List T) (zc:Array Value) (rs:List T),
  fo β G w M zs zc.toList→zs.all single=true→parts.length=ps.length→(∀(j i:Nat) (cv:Value) (off:Nat) (ts:List T),parts[j]? =some (i,cv)→ps[j]? =some (off,ts)→place i=some (off,ts.length)∧fo β G w M ts cv.cells.toList∧ts.all single=true)→
  px zs ps=some rs→ ∃rc,Instr.fill place zc parts=some rc∧fo β G w M rs rc.toList∧rs.all single=true
 | [],ps,zs,zc,rs,hz,hs,hlen,hp,hf=>by
   cases ps with
   |nil=>simp[px]at hf;subst hf;exact⟨zc,by simp[Instr.fill],hz,hs⟩
   |cons p ps=>simp at hlen
 |(i,cv)::parts,ps,zs,zc,rs,hz,hs,hlen,hp,hf=>by
  cases ps with
  |nil=>simp at hlen
  |cons p ps=>
   obtain⟨off,ts⟩:=p
   simp only[px]at hf
   split at hf
   ·rename_i hle
    obtain⟨p1,p2,p3⟩:=hp 0 i cv off ts rfl rfl
    have OZ:=fo.length _ _ p2
    have SF:=fo.length _ _ hz
    have nL:cv.cells.size=ts.length:=by rw[OZ];simp
    have X1:zc.size=zs.length:=by rw[SF];simp
    have hc: ¬((cv.cells.size≠ts.length||off+cv.cells.size>zc.size)=true):=by
     rw[nL,X1];simp;omega
    have e:(cv.cells.zipIdx.foldl (fun(cs:Array Value) (p:Value×Nat)=>cs.setIfInBounds (off+p.2) p.1) zc).toList=splice zc.toList off cv.cells.toList:=by
     have:=xI off cv.cells.toList 0 zc
     rw[←Array.foldl_toList,Array.toList_zipIdx];simpa using this
    obtain⟨rc,r1,r2,r3⟩:=J6 parts ps (splice zs off ts) (cv.cells.zipIdx.foldl (fun(cs:Array Value) (p:Value×Nat)=>cs.setIfInBounds (off+p.2) p.1) zc) rs
     (by rw[e];exact fo.splice hz p2) (sA hs p3) (by simpa using hlen) (fun j i cv off ts a b=>hp (j+1) i cv off ts (by simpa using a) (by simpa using b)) hf
    refine⟨rc, ?_,r2,r3⟩
    simp only[Instr.fill,p1]
    rw[if_neg hc]
    exact r1
   ·cases hf
section
variable{P:Program}{B:jR}{st:St}{a:Act}{w:World}{β:fS}{M:fE}{o:Oper}{v:T}{ups:List Up}
theorem wu{lS:List (Nat×Nat)}: ∀{ps:List (Nat×Operand)} {r:List (Nat×Nat×fM)},placesOf lS ps=some r→ps.length=r.length∧ ∀(j i:Nat) (x:Operand) (off n:Nat) (y:fM),ps[j]? =some (i,x)→r[j]? =some (off,n,y)→lS[i]? =some (off,n)∧jO x=some y
 | [],r,h=>by simp[placesOf]at h;subst h;simp
 |(i0,x0)::ps,r,h=>by
  simp only[placesOf]at h
  split at h
  ·rename_i p y r' h1 h2 h3
   simp at h;subst h
   obtain⟨a1,a2⟩:=wu h3
   refine⟨by simp[a1],fun j i x off n y' b1 b2=> ?_⟩
   cases j with
   |zero=>simp at b1 b2;obtain⟨rfl,rfl⟩:=b1;obtain⟨rfl,rfl,rfl⟩:=b2;exact⟨h1,h2⟩
   |succ j=>exact a2 j i x off n y' (by simpa using b1) (by simpa using b2)
  ·cases h
theorem uT{sz:Nat}: ∀{ps:List (Nat×Operand)} {r:List (Nat×Nat×fM)},pT sz ps=some r→ps.length=r.length∧ ∀(j i:Nat) (x:Operand) (off n:Nat) (y:fM),ps[j]? =some (i,x)→r[j]? =some (off,n,y)→(off=i*sz∧n=sz)∧jO x=some y
 | [],r,h=>by simp[pT]at h;subst h;simp
 |(i0,x0)::ps,r,h=>by
  simp only[pT]at h
  split at h
  ·rename_i y r' h2 h3
   simp at h;subst h
   obtain⟨a1,a2⟩:=uT h3
   refine⟨by simp[a1],fun j i x off n y' b1 b2=> ?_⟩
   cases j with
   |zero=>simp at b1 b2;obtain⟨rfl,rfl⟩:=b1;obtain⟨rfl,rfl,rfl⟩:=b2;exact⟨⟨rfl,rfl⟩,h2⟩
   |succ j=>exact a2 j i x off n y' (by simpa using b1) (by simpa using b2)
  ·cases h
variable(hZ:py β st.gens w M st.rho a.eval)(h:fY B st w β M)
include hZ h
theorem FN{d nx:Nat}{t:TypeId}{ps:Array (Nat×Operand)}{z:T}{r:List (Nat×Nat×fM)}(ho:o.op= .build t ps)(hz:rI P t=some z)
  (hpl:(∃fs lS,P.underlying t=some (.struct fs)∧fs.toList.mapM (fun f=>(P.info? f.type).map fun i=>(f.offset,i.size))=some lS∧placesOf lS ps.toList=some r)∨(∃n e sz,P.underlying t=some (.array n e)∧jG P e=some sz∧pT sz ps.toList=some r))
  (ZK:noTup z=true) (hq:(gA d st.rho (.build (cellsOf z) r)).run st.get nx=some (.val v ups)):jr P B st a w β M o v ups:=by
 obtain⟨i,zv,z1,z2,z3⟩:=wo hz
 have al8:fk β st.gens w M z zv:=PRel.toV _ _ _ _ (qh z3)
 obtain⟨zc1,zc2⟩:=sy al8 ZK
 simp only[gA]at hq
 split at hq
 ·rename_i gz
  cases hf:px (cellsOf z) (r.map fun p=>(p.1,cellsOf (st.rho p.2.2)))with
  |none=>simp[hf,Ev.val,Q.run]at hq
  |some rs=>
   simp[hf,Ev.val,Q.run]at hq;obtain⟨rfl,rfl⟩:=hq
   have parts: ∃place:Nat→Option (Nat×Nat),(∀rc,Instr.fill place zv.cells (ps.toList.map fun p=>(p.1,a.eval p.2))=some rc→P.built t (ps.map fun(i,x)=>(i,a.eval x)).toList=some rc)∧ps.toList.length=r.length∧
     ∀(j i:Nat) (x:Operand) (off n:Nat) (y:fM),ps.toList[j]? =some (i,x)→r[j]? =some (off,n,y)→place i=some (off,n)∧jO x=some y:=by
    rcases hpl with⟨fs,lS,u1,u2,u3⟩|⟨n,e,sz,u1,u2,u3⟩
    ·obtain⟨g1,g2⟩:=wu u3
     refine⟨fun i=>lS[i]?,fun rc hrc=> ?_,g1,g2⟩
     simp only[Program.built,z1,z2,u1,u2,Array.toList_map]
     have:(fun x:Nat=>lS.toArray[x]?)=fun i=>lS[i]? :=by funext i;simp
     rw[this];exact hrc
    ·obtain⟨g1,g2⟩:=uT u3
     have: ∃ie,P.info? e=some ie∧ie.size=sz:=by
      unfold jG at u2
      cases he:P.info? e with
      |none=>simp[he]at u2
      |some ie=>simp[he]at u2;exact⟨ie,rfl,u2⟩
     obtain⟨ie,v1,v2⟩:=this
     refine⟨fun i=>some (i*ie.size,ie.size),fun rc hrc=> ?_,g1,fun j i x off n y b1 b2=> ?_⟩
     ·simp only[Program.built,z1,z2,u1,v1,Array.toList_map];exact hrc
     ·obtain⟨⟨rfl,rfl⟩,c⟩:=g2 j i x off n y b1 b2
      exact⟨by rw[v2],c⟩
   obtain⟨place,q1,q2,q3⟩:=parts
   obtain⟨rc,r1,r2,r3⟩:=J6 (place:=place) (ps.toList.map fun p=>(p.1,a.eval p.2)) _ (cellsOf z) zv.cells rs zc1 zc2 (by simp[q2]) (by
    intro j i cv off ts b1 b2
    rw[List.getElem?_map,Option.map_eq_some_iff]at b1 b2
    obtain⟨⟨i',x⟩,c1,c2⟩:=b1
    obtain⟨⟨ama,n,y⟩,c3,c4⟩:=b2
    simp at c2 c4
    obtain⟨rfl,rfl⟩:=c2
    obtain⟨rfl,rfl⟩:=c4
    obtain⟨e1,e2⟩:=q3 j i' x ama n y c1 c3
    have hv:=hZ x y e2
    have O0:=(List.all_eq_true.1 gz) _ (List.mem_of_getElem? c3)
    simp at O0
    obtain⟨k1,k2⟩:=sy hv O0.2
    exact⟨by rw[e1,O0.1],k1,k2⟩) hf
   refine fV h (cv:= .agg rc) ?_ (by simp only[fk];exact⟨rc,rfl,r2,r3⟩)
   have:=run_build (P:=P) w t (ps.map fun(i,x)=>(i,a.eval x)) rc (q1 rc r1)
   simp[execOp,ho,this]
 ·simp[Q.run]at hq
end
end Go.Ev
namespace Go.Ev
open Go
theorem og{st:St}{d:Nat}{sh:Bool}{ob:Ob}{f:Sp→Nat→Nat→T}{v:T}{ups:List Up}(h:(nP d sh ob f).run st.get st.sh.length=some (.val v ups)):
  ∃sp k g,v=f sp k g∧ups= [(sp,k,⟨g,ob⟩)]∧st.gens sp k<g∧(sp= .S→sh=true):=by
 unfold nP at h
 split at h
 ·simp[Q.run]at h
  obtain⟨rfl,rfl⟩:=h
  refine⟨.S,st.sh.length,1,rfl,rfl, ?_,fun _=>by assumption⟩
  show(st.get .S st.sh.length).g<1
  simp[St.get,Cx (Nat.le_refl _),jq]
 ·simp[Q.run]at h
  obtain⟨rfl,rfl⟩:=h
  exact⟨.L,d,_,rfl,rfl,Nat.lt_succ_self _,fun e=>by cases e⟩
theorem wv{α:Type}(z:List α): ∀n,(repl z n).length=n*z.length
 |0=>by simp[repl]
 |n+1=>by simp[repl,wv z n,Nat.add_mul];omega
theorem FO{α:Type}(z:List α)(hz:z≠ []): ∀(n j:Nat),j<n*z.length→(repl z n)[j]? =z[j%z.length]?
 |0,j,h=>by simp at h
 |n+1,j,h=>by
  have ZL:0<z.length:=List.length_pos_iff.2 hz
  simp only[repl]
  by_cases hj:j<z.length
  ·rw[List.getElem?_append_left hj,Nat.mod_eq_of_lt hj]
  ·rw[List.getElem?_append_right (by omega),FO z hz n (j-z.length) (by rw[Nat.add_mul]at h;omega)]
   rw[←Nat.mod_eq_sub_mod (by omega)]
theorem Ar(z:Array Value)(n:Nat)(hz:z.size≠0):((Array.range (n*z.size)).map (fun i=>z[i%z.size]!)).toList=repl z.toList n:=by
 apply List.ext_getElem?
 intro j
 have hz':z.toList≠ []:=by intro e;apply hz;have:=congrArg List.length e;simpa using this
 by_cases hj:j<n*z.size
 ·rw[FO z.toList hz' n j (by simpa using hj)]
  have hm:j%z.size<z.size:=Nat.mod_lt _ (by omega)
  simp[hj,hm]
 ·have h1:(repl z.toList n)[j]? =none:=by rw[List.getElem?_eq_none];rw[wv];simp;omega
  rw[h1];simp;omega
theorem PList.repl{w:World}{M:fE}{z:List T}{zv:List Value}(h:PList w M z zv): ∀n,PList w M (Ev.repl z n) (Ev.repl zv n)
 |0=>by simp[Ev.repl,PList]
 |n+1=>by simp only[Ev.repl];exact PList.append h (PList.repl h n)
theorem As{z:List T}(h:z.all single=true): ∀n,(repl z n).all single=true
 |0=>by simp[repl]
 |n+1=>by simp only[repl,List.all_append,Bool.and_eq_true];exact⟨h,As h n⟩
theorem BY{P:Program}{w:World}{t e:TypeId}{i:TypeInfo}{zv:Value}{k:IntKind}{m:Int}(ht:P.underlying t=some (.slice e))(hi:P.info? e=some i)(hz:i.zero=some zv)(hm:0≤m)(O1:IntKind.i64.wrap m=m)
  (hb:(i.bytes:Int)*m≤281474976710656) (kZ:m.toNat*i.bytes≤140737488355328):
  (Instr.makeSlice t (.int k m) (.int k m)).run P w= .ok (.slice (some ⟨w.heap.size,0,none⟩) m.toNat m.toNat) (w.alloc (.cells ((Array.range (m.toNat*i.size)).map (fun j=>zv.cells[j%zv.cells.size]!)) e)):=by
 have h1: ¬(m<0):=by omega
 have h2: ¬(281474976710656<(i.bytes:Int)*m):=by omega
 have h3: ¬(140737488355328<m.toNat*i.bytes):=by omega
 have h4: ¬(m.toNat*i.bytes>roomBytes):=by unfold roomBytes;omega
 simp only[Instr.makeSlice,Sem.run_bind,run_underlying ht,Result.andThen_ok,asInt,asIntOf,Sem.run_pure,typeInfo,run_program,hi,O1]
 simp only[h1,decide_false,Bool.false_or,Int.lt_irrefl,gt_iff_lt,Bool.or_false]
 rw[if_neg (by simp;omega)]
 simp only[Sem.run_bind,askRoom,if_neg h4,Sem.run_pure,Result.andThen_ok,sizeOf,typeInfo,run_program,hi]
 by_cases hn:m.toNat*i.size=0
 ·rw[if_pos hn,hn]
  have:Array.range 0= #[]:=rfl
  simp[newRow,this]
 ·rw[if_neg hn]
  simp[newRow,zeroValue,typeInfo,hi,hz]
section
variable{P:Program}{B:jR}{st:St}{a:Act}{w:World}{β:fS}{M:fE}{o:Oper}{v:T}{ups:List Up}
theorem xJ(h:fY B st w β M)(el:TypeId)(c:Array Value)(cs:List T)(bx:Bool)(sp:Sp)(k g:Nat)(hg:st.gens sp k<g)
  (hl:oI sp bx β st.gens w M cs (c.toList.take cs.length)) (hs:cs.all single=true) (hle:cs.length≤c.size):
  fY B (st.up (sp,k,⟨g,.cells cs 0 bx⟩)) (w.alloc (.cells c el)) (l6 β sp k g ⟨w.heap.size,0,c.size⟩) (fun b x=>M b x∨b=w.heap.size)∧
  Tr st w β M (st.up (sp,k,⟨g,.cells cs 0 bx⟩)) (w.alloc (.cells c el)) (l6 β sp k g ⟨w.heap.size,0,c.size⟩) (fun b x=>M b x∨b=w.heap.size):=by
 have hb: ∀iy k' g',g'≤st.gens iy k'→l6 β sp k g ⟨w.heap.size,0,c.size⟩ iy k' g'=β iy k' g':=by
  intro iy k' g' BZ
  refine wg _ _ _ _ _ ?_
  rintro⟨rfl,rfl,rfl⟩
  omega
 have hG: ∀iy k',st.gens iy k'≤(st.up (sp,k,⟨g,.cells cs 0 bx⟩)).gens iy k':=by
  intro iy k'
  rw[jH]
  split
  ·rename_i e;obtain⟨rfl,rfl⟩:=e;exact Nat.le_of_lt hg
  ·exact Nat.le_refl _
 refine OW h sp k g hg (.cells c el) c.size (.cells cs 0 bx) ?_
 unfold jf
 simp only[gX]
 refine⟨c,el,(0,0),by rw[heap_alloc,if_pos rfl],by omega,hle,rfl, ?_,fun j _ _=>Or.inr (by trivial),hs,Nat.zero_le _⟩
 simp only[List.drop_zero]
 exact oI.mono (sv w M _) hb hG hl
theorem DK{o':Obj}{sp:Sp}{k g:Nat}{ob:Ob}{ext:Nat}{cv:Value}{v:T}(hr:(execOp a.eval o).run P w= .ok (.value cv) (w.alloc o'))
  (hn:fY B (st.up (sp,k,⟨g,ob⟩)) (w.alloc o') (l6 β sp k g ⟨w.heap.size,0,ext⟩) (fun b x=>M b x∨b=w.heap.size)∧
    Tr st w β M (st.up (sp,k,⟨g,ob⟩)) (w.alloc o') (l6 β sp k g ⟨w.heap.size,0,ext⟩) (fun b x=>M b x∨b=w.heap.size))
  (hv:fk (l6 β sp k g ⟨w.heap.size,0,ext⟩) (st.up (sp,k,⟨g,ob⟩)).gens (w.alloc o') (fun b x=>M b x∨b=w.heap.size) v cv):jr P B st a w β M o v [(sp,k,⟨g,ob⟩)]:=
 ⟨_,cv,_,_,_,hr,.inl rfl,hn.1,hn.2,by show _≤(w.heap.push o').size;simp,hv⟩
theorem Tr.less{M':fE}(hs: ∀b x,M' b x→M b x):Tr st w β M st w β M':=⟨iL hs,fun _ _ _ _=>rfl,fun _ _=>Nat.le_refl _⟩
theorem jr.less{M':fE}(hs: ∀b x,M' b x→M b x)(h:jr P B st a w β M' o v ups):jr P B st a w β M o v ups:=by
 obtain⟨nx,cv,w',fW,M2,h1,h2,h3,h4,h5,h6⟩:=h
 exact⟨nx,cv,w',fW,M2,h1,h2,h3,(Tr.less hs).trans h4 (Nat.le_refl _),h5,h6⟩
theorem wx{l:List Value}{n:Nat}(h:n=l.length):l.take n=l:=by subst h;simp
variable(hZ:py β st.gens w M st.rho a.eval)(h:fY B st w β M)
include h
theorem O2{d:Nat}{sh:Bool}{t:TypeId}{z:T}(ho:o.op= .alloc t)(hz:rI P t=some z)(ZK:noTup z=true)
  (hq:(gA d st.rho (.alloc (cellsOf z) sh)).run st.get st.sh.length=some (.val v ups)):jr P B st a w β M o v ups:=by
 simp only[gA]at hq
 obtain⟨sp,k,g,rfl,rfl,hg,hgs⟩:=og hq
 obtain⟨zv,z1,z2⟩:=CA hz w
 obtain⟨c1,c2⟩:=wq (z2 w M) ZK
 have hlen:=PList.length _ _ c1
 refine DK (cv:= .pointer (some ⟨w.heap.size,0,none⟩)) ?_ (xJ h t zv.cells (cellsOf z) true sp k g hg (by rw[wx hlen];exact oI.ofP c1) c2 (by rw[hlen];simp)) ?_
 ·simp[execOp,ho,Instr.alloc,z1,newVar,newRow]
 ·simp[fk,gX,jH]
include hZ
theorem ZM{d:Nat}{sh:Bool}{t:TypeId}{x:Operand}{x':fM}(ho:o.op= .box t x)(hx:jO x=some x')
  (hq:(gA d st.rho (.box x' sh)).run st.get st.sh.length=some (.val v ups)):jr P B st a w β M o v ups:=by
 have vx:=hZ x x' hx
 simp only[gA]at hq
 split at hq
 ·simp[Q.run]at hq
 ·rename_i ZN
  simp at ZN
  have fin: ∀(M':fE) (t':T),fY B st w β M'→noTup t'=true→ ∀sp k g,st.gens sp k<g→(match sp with| .L=>fk β st.gens w M' t' (a.eval x)| .S=>sw true β st.gens w M' t' (a.eval x))→jr P B st a w β M' o (.ptr sp k g 0) [(sp,k,⟨g,.cells (cellsOf t') 0 true⟩)]:=by
   intro M' t' h' ZN sp k g hg ht
   have htV:fk β st.gens w M' t' (a.eval x):=by
    cases sp
    ·exact ht
    ·exact sw.toV ht
   obtain⟨c1,c2⟩:=sy htV ZN
   have hlen:=fo.length _ _ c1
   refine DK (cv:= .pointer (some ⟨w.heap.size,0,none⟩)) ?_ (xJ h' t (a.eval x).cells (cellsOf t') true sp k g hg (by
    rw[wx hlen]
    cases sp
    ·exact c1
    ·exact fun fW G' p q=>(sy (ht fW G' p q) ZN).1) c2 (by rw[hlen];simp)) ?_
   ·simp[execOp,ho,Instr.box,newVar,newRow]
   ·simp[fk,gX,jH]
  split at hq
  ·simp only[Q.run_bind]at hq
   cases hz:(fz true fJ (st.rho x')).run st.get st.sh.length with
   |none=>simp[hz]at hq
   |some p=>
    obtain⟨t',us⟩:=p
    simp only[hz,Option.bind_some]at hq
    split at hq
    ·rename_i he
     simp at he
     obtain⟨rfl,Nw⟩:=he
     obtain⟨sp,k,g,rfl,rfl,hg,hgs⟩:=og hq
     obtain⟨M',q1,q2,q3,q4,q5⟩:=yu true st fJ (st.rho x') B st w β M _ t' [] _ (Fz.refl st) h vx hz
     exact jr.less q3 (fin M' t' q1 Nw sp k g hg (by cases sp;exact q4.toV;exact q4))
    ·simp[Q.run]at hq
  ·obtain⟨sp,k,g,rfl,rfl,hg,hgs⟩:=og hq
   exact fin M _ h ZN sp k g hg (by cases sp;exact vx;(have:=hgs rfl;simp_all))
omit hZ in
theorem O3{d:Nat}{sh:Bool}{t:TypeId}(ho:o.op= .makeMap t none)(hq:(gA d st.rho (.mkmap sh)).run st.get st.sh.length=some (.val v ups)):jr P B st a w β M o v ups:=by
 simp only[gA]at hq
 obtain⟨sp,k,g,rfl,rfl,hg,hgs⟩:=og hq
 refine DK (ext:=0) (cv:= .map (some w.heap.size)) (o':= .map #[] 0) ?_ (OW h sp k g hg (.map #[] 0) 0 (.map [] [] false) ?_) ?_
 ·simp[execOp,ho,Instr.makeMap]
 ·unfold jf
  simp only[gX]
  exact⟨#[],0,by rw[heap_alloc,if_pos rfl],MapKept.stamped_empty 0,by simp[PList],by simp[PList],fun _ _=>Or.inr (by trivial)⟩
 ·simp[fk,gX,jH]
theorem Tz{d:Nat}{sh:Bool}{t e:TypeId}{l c:Operand}{l':fM}{i:TypeInfo}{z:T}(ho:o.op= .makeSlice t l c)(ht:P.underlying t=some (.slice e))(hi:P.info? e=some i)(hz:rI P e=some z)(hl:jO l=some l')(At:DH l c=true)
  (ZK:noTup z=true) (nL:i.size=(cellsOf z).length) (h0:i.size≠0)
  (hq:(gA d st.rho (.mksl (cellsOf z) i.bytes l' sh)).run st.get st.sh.length=some (.val v ups)):jr P B st a w β M o v ups:=by
 have vl:=hZ l l' hl
 have ec:a.eval c=a.eval l:=by
  unfold DH at At
  split at At
  ·simp at At;subst At;rfl
  ·simp at At;subst At;rfl
  ·cases At
 simp only[gA]at hq
 split at hq
 ·rename_i n en
  obtain⟨k0,m,em,hm,rfl⟩:=mU en
  rw[em]at vl
  have el:=vl.int
  split at hq
  ·rename_i kZ
   simp at kZ
   obtain⟨X3,ZO⟩:=kZ
   obtain⟨sp,k,g,rfl,rfl,hg,hgs⟩:=og hq
   obtain⟨i',zv,z1,z2,z3⟩:=wo hz
   rw[hi]at z1;simp at z1;subst z1
   obtain⟨c1,c2⟩:=wq (w:=w) (M:=M) (qh z3) ZK
   have hlen:=PList.length _ _ c1
   have X1:zv.cells.size=i.size:=by rw[nL,hlen];simp
   have TA:=Ar zv.cells m.toNat (by omega)
   have ZP:roomy=1099511627776:=rfl
   rw[ZP]at X3 ZO
   have O1:IntKind.i64.wrap m=m:=by
    simp[IntKind.wrap,IntKind.bits,IntKind.signed];omega
   have agB:((Array.range (m.toNat*i.size)).map (fun j=>zv.cells[j%zv.cells.size]!)).size=m.toNat*i.size:=by simp
   refine DK (cv:= .slice (some ⟨w.heap.size,0,none⟩) m.toNat m.toNat) ?_ (xJ h e ((Array.range (m.toNat*i.size)).map (fun j=>zv.cells[j%zv.cells.size]!)) (repl (cellsOf z) m.toNat) false sp k g hg ?_ (As c2 _) ?_) ?_
   ·have hmul:(i.bytes:Int)*m=((m.toNat*i.bytes:Nat):Int):=by rw[Int.natCast_mul,Int.toNat_of_nonneg hm,Int.mul_comm]
    have:=BY (P:=P) (w:=w) (k:=k0) ht hi z2 hm O1 (by rw[hmul];omega) (by omega)
    simp[execOp,ho,ec,el,this]
   ·show PList w M _ _
    rw[wv,←nL,←X1,TA]
    have:=PList.repl c1 m.toNat
    rw[wx]
    ·exact this
    ·rw[wv];simp
   ·rw[agB,wv,nL];exact Nat.le_refl _
   ·simp only[fk,gX,jH]
    refine⟨by simp,m.toNat,rfl,Nat.le_refl _, ?_⟩
    rw[agB,nL];simp
  ·simp[Q.run]at hq
 ·simp[Q.run]at hq
end
end Go.Ev
namespace Go.Ev
open Go
theorem nq(st:St): ∀(us:List Up) (sp:Sp) (k:Nat),mM us sp k=false→(st.ups us).get sp k=st.get sp k:=by
 intro us
 induction us generalizing st with
 |nil=>intro sp k _;rfl
 |cons u us ih=>
  intro sp k hh
  obtain⟨iy,k',e⟩:=u
  simp only[mM,List.any_cons,Bool.or_eq_false_iff]at hh
  simp only[St.ups]
  rw[ih (st.up (iy,k',e)) sp k hh.2,jK,if_neg]
  rintro⟨rfl,rfl⟩
  simp at hh
theorem X4(st:St)(u:Up):(st.up u).fr=st.fr:=by obtain⟨sp,k,e⟩:=u;cases sp <;> rfl
theorem DL(st:St): ∀(us:List Up),(st.ups us).fr=st.fr:=by
 intro us
 induction us generalizing st with
 |nil=>rfl
 |cons u us ih=>simp only[St.ups];rw[ih,X4]
theorem yz: ∀{ps:List (Nat×Operand)} {r:List (Nat×fM)},uq ps=some r→ps.length=r.length∧ ∀(j i:Nat) (x:Operand) (i':Nat) (y:fM),ps[j]? =some (i,x)→r[j]? =some (i',y)→i'=i∧jO x=some y
 | [],r,h=>by simp[uq]at h;subst h;simp
 |(i0,x0)::ps,r,h=>by
  simp only[uq]at h
  split at h
  ·rename_i y r' h2 h3
   simp at h;subst h
   obtain⟨a1,a2⟩:=yz h3
   refine⟨by simp[a1],fun j i x i' y' b1 b2=> ?_⟩
   cases j with
   |zero=>simp at b1 b2;obtain⟨rfl,rfl⟩:=b1;obtain⟨rfl,rfl⟩:=b2;exact⟨rfl,h2⟩
   |succ j=>exact a2 j i x i' y' (by simpa using b1) (by simpa using b2)
  ·cases h
theorem FQ{w:World}{M:fE}{place:Nat→Option (Nat×Nat)}: ∀(parts:List (Nat×Value)) (ps:List (Nat×List T)) (zs:List T) (zc:Array Value) (rs:List T),
  PList w M zs zc.toList→zs.all single=true→parts.length=ps.length→(∀(j i:Nat) (cv:Value) (off:Nat) (ts:List T),parts[j]? =some (i,cv)→ps[j]? =some (off,ts)→place i=some (off,ts.length)∧PList w M ts cv.cells.toList∧ts.all single=true)→
  px zs ps=some rs→ ∃rc,Instr.fill place zc parts=some rc∧PList w M rs rc.toList∧rs.all single=true∧rs.length=zs.length
 | [],ps,zs,zc,rs,hz,hs,hlen,hp,hf=>by
   cases ps with
   |nil=>simp[px]at hf;subst hf;exact⟨zc,by simp[Instr.fill],hz,hs,rfl⟩
   |cons p ps=>simp at hlen
 |(i,cv)::parts,ps,zs,zc,rs,hz,hs,hlen,hp,hf=>by
  cases ps with
  |nil=>simp at hlen
  |cons p ps=>
   obtain⟨off,ts⟩:=p
   simp only[px]at hf
   split at hf
   ·rename_i hle
    obtain⟨p1,p2,p3⟩:=hp 0 i cv off ts rfl rfl
    have OZ:=PList.length _ _ p2
    have SF:=PList.length _ _ hz
    have nL:cv.cells.size=ts.length:=by rw[OZ];simp
    have X1:zc.size=zs.length:=by rw[SF];simp
    have hc: ¬((cv.cells.size≠ts.length||off+cv.cells.size>zc.size)=true):=by
     rw[nL,X1];simp;omega
    have e:(cv.cells.zipIdx.foldl (fun(cs:Array Value) (p:Value×Nat)=>cs.setIfInBounds (off+p.2) p.1) zc).toList=splice zc.toList off cv.cells.toList:=by
     have:=xI off cv.cells.toList 0 zc
     rw[←Array.foldl_toList,Array.toList_zipIdx];simpa using this
    obtain⟨rc,r1,r2,r3,r4⟩:=FQ parts ps (splice zs off ts) (cv.cells.zipIdx.foldl (fun(cs:Array Value) (p:Value×Nat)=>cs.setIfInBounds (off+p.2) p.1) zc) rs
     (by rw[e];exact PList.splice hz p2) (sA hs p3) (by simpa using hlen) (fun j i cv off ts a b=>hp (j+1) i cv off ts (by simpa using a) (by simpa using b)) hf
    refine⟨rc, ?_,r2,r3,by rw[r4,iz]⟩
    simp only[Instr.fill,p1]
    rw[if_neg hc]
    exact r1
   ·cases hf
theorem Au{P:Program}{w:World}{t e:TypeId}{len n:Nat}{i:TypeInfo}{zv:Value}{parts:Array (Nat×Value)}{rc:Array Value}(ht:P.underlying t=some (.slice e))(hi:P.info? e=some i)(hn:i.size=n)(hz:i.zero=some zv)(hle:len*n≤16777216)
  (O4:Instr.fill (fun j=>some (j*n,n)) ((Array.range (len*n)).map (fun j=>zv.cells[j%zv.cells.size]!)) parts.toList=some rc):
  (Instr.buildSlice t len parts).run P w= .ok (.slice (some ⟨w.heap.size,0,none⟩) len len) (w.alloc (.cells rc e)):=by
 have BZ: ¬(len*n>2 ^ 24):=by omega
 have hso:(sizeOf e).run P w= .ok n w:=by simp[sizeOf,typeInfo,hi,hn]
 have hzero:(zeroValue e).run P w= .ok zv w:=by simp[zeroValue,typeInfo,hi,hz]
 unfold Instr.buildSlice
 by_cases LW:len*n=0
 ·have e0: ∀f:Nat→Value,(Array.range (len*n)).map f= #[]:=by
   intro f;rw[LW];have h00:Array.range 0= #[]:=rfl
   rw[h00];simp
  rw[e0]at O4
  simp only[Sem.run_bind,run_underlying ht,Result.andThen_ok,hso,if_neg BZ,if_pos LW,Sem.run_pure,e0,O4]
  simp[newRow]
 ·simp only[Sem.run_bind,run_underlying ht,Result.andThen_ok,hso,if_neg BZ,if_neg LW,Sem.run_pure,hzero,O4]
  simp[newRow]
section
variable{P:Program}{B:jR}{st:St}{a:Act}{w:World}{β:fS}{M:fE}{o:Oper}{v:T}{ups:List Up}
variable(hZ:py β st.gens w M st.rho a.eval)(h:fY B st w β M)
theorem Tr.fz{gj:St}{M':fE}(hf:Fz st gj)(hs: ∀b x,M' b x→M b x):Tr st w β M gj w β M':=
 ⟨iL hs,fun _ _ _ _=>rfl,fun sp k=>by rw[hf.gens];exact Nat.le_refl _⟩
include hZ h
theorem ZQ{d nx:Nat}{t e:TypeId}{len:Nat}{ps:Array (Nat×Operand)}{r:List (Nat×fM)}{z:T}{n:Nat}(ho:o.op= .buildSlice t len ps)(ht:P.underlying t=some (.slice e))(hz:rI P e=some z)(hn:jG P e=some n)(hr:uq ps.toList=some r)
  (ZK:noTup z=true) (nL:n=(cellsOf z).length) (h0:n≠0) (wy:len*n≤16777216)
  (hq:(gA d st.rho (.bsl (cellsOf z) len r)).run st.get nx=some (.val v ups)):jr P B st a w β M o v ups:=by
 simp only[gA,Q.run_bind]at hq
 cases hm:(gk (Ev.fz false fJ) (r.map fun p=>st.rho p.2)).run st.get nx with
 |none=>simp[hm]at hq
 |some p=>
  obtain⟨ts,us⟩:=p
  simp only[hm,Option.bind_some]at hq
  split at hq
  ·rename_i gz
   split at hq
   ·rename_i cs hf
    simp[Q.run]at hq;obtain⟨rfl,rfl⟩:=hq
    obtain⟨g1,g2⟩:=yz hr
    have sZ:fo β st.gens w M (r.map fun p=>st.rho p.2) (ps.toList.map fun p=>a.eval p.2):=by
     have gen: ∀(qs:List (Nat×Operand)) (rs:List (Nat×fM)),qs.length=rs.length→(∀(j i:Nat) (x:Operand) (i':Nat) (y:fM),qs[j]? =some (i,x)→rs[j]? =some (i',y)→i'=i∧jO x=some y)→fo β st.gens w M (rs.map fun p=>st.rho p.2) (qs.map fun p=>a.eval p.2):=by
      intro qs
      induction qs with
      |nil=>intro rs hl _;cases rs with|nil=>simp[fo]|cons _ _=>simp at hl
      |cons q qs ih=>
       intro rs hl hg
       cases rs with
       |nil=>simp at hl
       |cons rr rs=>
        simp only[List.map_cons,fo]
        exact⟨_,_,rfl,hZ _ _ (hg 0 q.1 q.2 rr.1 rr.2 rfl rfl).2,ih rs (by simpa using hl) (fun j i x i' y a b=>hg (j+1) i x i' y (by simpa using a) (by simpa using b))⟩
     exact gen _ _ g1 g2
    obtain⟨M',q1,q2,q3,q4,q5,q6⟩:=ow (fun t=>yu false st fJ t) _ B st w β M _ ts us nx (Fz.refl st) h sZ hm
    have q4':PList w M' ts (ps.toList.map fun p=>a.eval p.2):=q4
    obtain⟨i,zv,z1,z2,z3⟩:=wo hz
    obtain⟨c1,c2⟩:=wq (w:=w) (M:=M') (qh z3) ZK
    have hzl:=PList.length _ _ c1
    have agC:i.size=n:=by unfold jG at hn;rw[z1]at hn;simpa using hn
    have X1:zv.cells.size=n:=by rw[nL,hzl];simp
    have TA:=Ar zv.cells len (by omega)
    rw[X1]at TA
    have agD:PList w M' (repl (cellsOf z) len) ((Array.range (len*n)).map (fun j=>zv.cells[j%n]!)).toList:=by
     rw[TA];exact PList.repl c1 len
    obtain⟨rc,r1,r2,r3,r4⟩:=FQ (place:=fun i=>some (i*n,n)) (ps.toList.map fun p=>(p.1,a.eval p.2)) _ (repl (cellsOf z) len) _ cs agD (As c2 len) (by simp[g1,q6]) (by
     intro j i cv off tt b1 b2
     rw[List.getElem?_map,Option.map_eq_some_iff]at b1
     obtain⟨⟨i1,x⟩,c3,c4⟩:=b1
     simp at c4;obtain⟨rfl,rfl⟩:=c4
     rw[List.getElem?_zip_eq_some]at b2
     obtain⟨b3,b4⟩:=b2
     rw[List.getElem?_map,Option.map_eq_some_iff]at b3 b4
     obtain⟨⟨i2,y⟩,d1,d2⟩:=b3
     obtain⟨tv,d3,d4⟩:=b4
     obtain⟨e1,e2⟩:=g2 j i1 x i2 y c3 d1
     subst e1
     simp at d2
     obtain⟨cv',f1,f2⟩:=q4'.get d3
     rw[List.getElem?_map,c3]at f1
     simp at f1;subst f1
     have FR:=(List.all_eq_true.1 gz) _ (List.mem_of_getElem? d3)
     simp at FR
     obtain⟨k1,k2⟩:=wq f2 FR.2
     subst d4
     exact⟨by rw[FR.1,←nL,←d2,nL],k1,k2⟩) hf
    obtain⟨p1,p2⟩:=Zt q1 (.cells rc e)
    refine⟨_,.slice (some ⟨w.heap.size,0,none⟩) len len,w.alloc (.cells rc e),β,M', ?_,.inl rfl,p1,(Tr.fz q2 q3).trans p2 (Nat.le_refl _),by show _≤(w.heap.push _).size;simp, ?_⟩
    ·have:=Au (P:=P) (w:=w) (t:=t) (e:=e) (len:=len) (n:=n) (parts:=ps.map fun(i,x)=>(i,a.eval x)) (rc:=rc) ht z1 agC z2 wy (by rw[X1];simpa using r1)
     simp[execOp,ho,this]
    ·simp only[fk,PRel]
     refine⟨w.heap.size,0,len,none,rfl,Nat.le_refl _,fun _=>rfl,.inl rfl, ?_⟩
     have SJ:=PList.length _ _ r2
     refine fI.of (c:=rc) (el:=e) (fz:=(0,0)) (by rw[heap_alloc,if_pos rfl]) _ _ ?_ ?_ r3
     ·rw[List.drop_zero,wx SJ];exact PList.mono p2.keep _ _ r2
     ·intro x _ _ ZG
      exact Nat.lt_irrefl _ (q1.mlt _ _ ZG)
   ·simp[Q.run]at hq
  ·simp[Q.run]at hq
end
end Go.Ev
namespace Go.Ev
open Go
theorem tc{w:World}{g:Nat}{LX cs:Array Value}{t:TypeId}{fr:Nat×Nat}(hg:w.heap[g]? =some (.cells LX t fr)):w.setRow g cs=setBlock w g (.cells cs t fr):=by
 unfold World.setRow setBlock
 congr 1
 apply Array.ext_getElem?
 intro i
 rw[Array.getElem?_modify,Array.getElem?_setIfInBounds]
 split
 ·rename_i e;subst e;rw[hg,if_pos (mH hg)];rfl
 ·rfl
theorem fk.one{β:fS}{G:Sp→Nat→Nat}{w:World}{M:fE}{t:T}{cv:Value}(h:fk β G w M t cv)(hs:single t=true):cv.oneCell'=true:=by
 cases t <;> simp[single]at hs <;> simp only[fk,PRel]at h
 all_goals first
  |(subst h;rfl)
  |(obtain⟨_,rfl,_⟩:=h;rfl)
  |(obtain⟨_,_,rfl,_⟩:=h;rfl)
  |(obtain⟨_,_,_,rfl,_⟩:=h;rfl)
  |(obtain⟨_,_,_,_,rfl,_⟩:=h;rfl)
  |(obtain⟨_,rfl⟩:=h;rfl)
theorem fo.one{β:fS}{G:Sp→Nat→Nat}{w:World}{M:fE}: ∀{ts:List T} {vs:List Value},fo β G w M ts vs→ts.all single=true→ ∀v∈vs,v.oneCell'=true
 | [],vs,h,_=>by simp only[fo]at h;subst h;simp
 |t::ts,vs,h,hs=>by
  simp only[fo]at h
  obtain⟨u,us,rfl,h1,h2⟩:=h
  simp only[List.all_cons,Bool.and_eq_true]at hs
  intro v hv
  simp at hv
  rcases hv with rfl|hv
  ·exact h1.one hs.1
  ·exact fo.one h2 hs.2 v hv
theorem TB(l vs:List Value)(k:Nat)(hk:k+vs.length≤l.length)(j:Nat):(l.take k++vs++l.drop (k+vs.length))[j]? =(splice l k vs)[j]? :=by
 rw[jt]
 by_cases h1:j<k
 ·rw[if_neg (by omega),List.append_assoc,List.getElem?_append_left (by simp;omega),List.getElem?_take,if_pos h1]
 ·by_cases h2:j<k+vs.length
  ·rw[if_pos (by omega),List.append_assoc,List.getElem?_append_right (by simp;omega),List.getElem?_append_left (by simp;omega)]
   congr 1;simp;omega
  ·rw[if_neg (by omega),List.getElem?_append_right (by simp;omega),List.getElem?_drop]
   congr 1;simp;omega
theorem H7(l vs:List Value)(k:Nat)(hk:k+vs.length≤l.length):l.take k++vs++l.drop (k+vs.length)=splice l k vs:=by
 apply List.ext_getElem?;intro j;exact TB l vs k hk j
section
variable{P:Program}{B:jR}{st:St}{a:Act}{w:World}{β:fS}{M:fE}{o:Oper}{v:T}{ups:List Up}
theorem Av(h:fY B st w β M){sp:Sp}{k g wm:Nat}{cs:List T}{bx:Bool}(he:st.get sp k=⟨g,.cells cs wm bx⟩)(g':Nat)(X6:g≤g'){c:Array Value}{el:TypeId}
  (hb:w.heap[(β sp k g).blk]? =some (.cells c el (0,0))) (off:Nat) (vs:List Value) (LY:List T) (FT:wm≤off) (FU:off+vs.length≤(β sp k g).ext) (hle:cs.length≤LY.length) (amc:LY.length≤(β sp k g).ext) (hs:LY.all single=true)
  (hl:oI sp bx β st.gens w M LY ((splice (c.toList.drop (β sp k g).off) off vs).take LY.length)):
  fY B (st.up (sp,k,⟨g',.cells LY wm bx⟩)) (setBlock w (β sp k g).blk (.cells (splice c.toList ((β sp k g).off+off) vs).toArray el)) (l6 β sp k g' (β sp k g)) M∧
  Tr st w β M (st.up (sp,k,⟨g',.cells LY wm bx⟩)) (setBlock w (β sp k g).blk (.cells (splice c.toList ((β sp k g).off+off) vs).toArray el)) (l6 β sp k g' (β sp k g)) M:=by
 have hg:st.gens sp k=g:=by show(st.get sp k).g=g;rw[he]
 have ZR:live (st.get sp k):=by rw[he];trivial
 have ho:=h.obj sp k
 rw[he]at ho
 unfold jf at ho
 obtain⟨c0,el0,fz0,h1,h2,h3,h4,h5,h6,h7,h8⟩:=ho
 dsimp only at h1 h2 h3 h4 h6
 rw[hb]at h1
 simp at h1
 obtain⟨rfl,rfl,rfl⟩:=h1
 have TC:=mH hb
 have hk:iW w M (setBlock w (β sp k g).blk (.cells (splice c.toList ((β sp k g).off+off) vs).toArray el)) M:=by
  refine⟨fun b x u hu hm=> ?_,fun b es cl hu hm=> ?_,fun _ _ _ h=>h⟩
  ·by_cases EY:b=(β sp k g).blk
   ·subst EY
    unfold World.cell? at hu ⊢
    rw[hb]at hu
    rw[iO,if_pos ⟨rfl,TC⟩]
    simp at hu ⊢
    rw[jt,if_neg]
    ·simpa using hu
    ·rintro⟨q1,q2,q3⟩
     apply hm
     have:=h6 (x-(β sp k g).off) (by omega) (by omega)
     rwa [show(β sp k g).off+(x-(β sp k g).off)=x by omega]at this
   ·rw[nn (w:=w) (by rw[iO,if_neg (fun e=>EY e.1)])];exact hu
  ·by_cases EY:b=(β sp k g).blk
   ·subst EY;rw[hb]at hu;simp at hu
   ·rw[iO,if_neg (fun e=>EY e.1)];exact hu
 have J7: ∀iy k' g'',g''≤st.gens iy k'→l6 β sp k g' (β sp k g) iy k' g''=β iy k' g'':=by
  intro iy k' g'' BZ
  by_cases e:iy=sp∧k'=k∧g''=g'
  ·obtain⟨rfl,rfl,rfl⟩:=e
   rw[gX,←hg]
   congr 1;omega
  ·exact wg _ _ _ _ _ e
 have hG: ∀iy k',st.gens iy k'≤(st.up (sp,k,⟨g',.cells LY wm bx⟩)).gens iy k':=by
  intro iy k';rw[jH];split
  ·rename_i e;obtain⟨rfl,rfl⟩:=e;rw[hg];exact X6
  ·exact Nat.le_refl _
 have key:=JV (M':=M) h sp k g' (.cells LY wm bx) ZR (by rw[hg];exact X6) (.cells (splice c.toList ((β sp k g).off+off) vs).toArray el) (fun _ _ hm=>hm) (fun _ _ _ hm=>hm) (by rw[hg];exact hk) (h.base ZR)
 rw[hg]at key
 refine key ?_
 unfold jf
 simp only[gX]
 refine⟨_,el,(0,0),by rw[iO,if_pos ⟨rfl,TC⟩],by simp[iz];omega,amc,rfl, ?_,h6,hs,by omega⟩
 have X7:(splice c.toList ((β sp k g).off+off) vs).drop (β sp k g).off=splice (c.toList.drop (β sp k g).off) off vs:=by
  apply List.ext_getElem?
  intro j
  rw[List.getElem?_drop,jt,jt,List.getElem?_drop,List.length_drop]
  have e:(β sp k g).off+j-((β sp k g).off+off)=j-off:=by omega
  rw[e]
  by_cases hc:off≤j∧j<off+vs.length∧j<c.toList.length-(β sp k g).off
  ·rw[if_pos hc,if_pos (by omega)]
  ·rw[if_neg hc,if_neg (by omega)]
 simp only[List.toList_toArray]at X7 ⊢
 rw[X7]
 exact oI.mono hk J7 hG hl
variable(hZ:py β st.gens w M st.rho a.eval)(h:fY B st w β M)
include h
omit h in
theorem CB{M':fE}{us:List Up}{t:TypeId}{n:Nat}{x y:Operand}{sp:Sp}{k g off wm:Nat}{cs:List T}{bx:Bool}{ts:List T}(ho:o.op= .store t x y)(hn:jG P t=some n)(h':fY B (st.ups us) w β M')(htr:Tr st w β M (st.ups us) w β M')
  (hx:a.eval x= .pointer (some ⟨(β sp k g).blk,(β sp k g).off+off,none⟩)) (he:(st.ups us).get sp k=⟨g,.cells cs wm bx⟩) (FT:wm≤off) (hle:off+n≤cs.length) (hlen:ts.length=n) (hs:ts.all single=true)
  (hl:oI sp bx β (st.ups us).gens w M' ts (a.eval y).cells.toList):
  jr P B st a w β M o gf (us++ [(sp,k,⟨g,.cells (splice cs off ts) wm bx⟩)]):=by
 have An:=h'.obj sp k
 rw[he]at An
 unfold jf at An
 obtain⟨c,el,fz,h1,h2,h3,h4,h5,h6,h7,h8⟩:=An
 dsimp only at h1 h2 h3 h4 h5 h6
 subst h4
 have hlV:fo β (st.ups us).gens w M' ts (a.eval y).cells.toList:=hl.toV
 have sZ:=fo.length _ _ hlV
 have ZS:=fo.one hlV hs
 have lX:=run_storeCells_at P (β sp k g).blk ((β sp k g).off+off) el (a.eval y).cells.toList 0 c w h1 (by simp at sZ ⊢; omega) ZS
 rw[tc h1]at lX
 simp only[Nat.add_zero]at lX
 rw[H7 _ _ _ (by simp at sZ ⊢; omega)]at lX
 have key:=Av h' he g (Nat.le_refl _) h1 off (a.eval y).cells.toList (splice cs off ts) FT (by omega) (by rw[iz];exact Nat.le_refl _) (by rw[iz];exact h3) (sA h7 hs) (by
  rw[iz]
  have O5:(splice (c.toList.drop (β sp k g).off) off (a.eval y).cells.toList).take cs.length=splice ((c.toList.drop (β sp k g).off).take cs.length) off (a.eval y).cells.toList:=by
   apply List.ext_getElem?
   intro j
   rw[List.getElem?_take,jt,jt,List.getElem?_take,List.length_take]
   by_cases hj:j<cs.length
   ·rw[if_pos hj,if_pos hj]
    by_cases hc:off≤j∧j<off+(a.eval y).cells.toList.length∧j<(c.toList.drop (β sp k g).off).length
    ·rw[if_pos hc,if_pos (by omega)]
    ·rw[if_neg hc,if_neg (by omega)]
   ·rw[if_neg hj,if_neg hj,if_neg (by omega)]
  rw[O5]
  cases bx
  ·exact PList.splice h5 hl
  ·cases sp
   ·exact fo.splice h5 hl
   ·exact fun fW G' p q=>fo.splice (h5 fW G' p q) (hl fW G' p q))
 rw[rM]at key
 refine⟨.skip,undef,setBlock w (β sp k g).blk (.cells (splice c.toList ((β sp k g).off+off) (a.eval y).cells.toList).toArray el),β,M', ?_,.inr ⟨rfl,rfl⟩, ?_, ?_,by rw[jL];exact Nat.le_refl _, ?_⟩
 ·have BO:(a.eval y).cells.size=n:=by simp at sZ;omega
  simp[execOp,ho,hx,Instr.storeAt,Instr.sureAddr,storeVar,lJ hn,BO,lX]
 ·rw[iY];exact key.1
 ·rw[iY];exact htr.trans key.2 (Nat.le_refl _)
 ·simp[fk,gf,undef,fo]
include hZ
theorem agF{d:Nat}{t:TypeId}{n:Nat}{x y:Operand}{x' y':fM}(ho:o.op= .store t x y)(hx:jO x=some x')(hy:jO y=some y')(hn:jG P t=some n)
  (hq:(gA d st.rho (.st x' y' n)).run st.get st.sh.length=some (.val v ups)):jr P B st a w β M o v ups:=by
 have vx:=hZ x x' hx
 have vy:=hZ y y' hy
 simp only[gA,sr]at hq
 split at hq
 ·simp[Q.run]at hq
 ·rename_i hc
  simp at hc
  obtain⟨hlen,ZN⟩:=hc
  split at hq
  ·rename_i sp k g off ex
   rw[ex]at vx
   simp only[fk]at vx
   simp only[Q.run]at hq
   split at hq
   ·rename_i hg
    generalize he:st.get sp k=e at*
    obtain⟨ge,ob⟩:=e
    dsimp only at hg;subst hg
    cases ob with
    |none=>simp[Q.run]at hq
    |map _ _ _=>simp[Q.run]at hq
    |cells cs wm bx=>
     dsimp only at hq
     split at hq
     ·rename_i FT
      simp at FT
      split at hq
      ·rename_i SK
       simp at SK
       obtain⟨rfl,rfl⟩:=SK
       simp[Q.run]at hq;obtain⟨rfl,rfl⟩:=hq
       obtain⟨k1,k2⟩:=sy vy ZN
       exact CB (us:= []) ho hn h (Tr.refl _ _ _ _) vx.2 he FT.1 FT.2 hlen k2 k1
      ·rename_i SK
       simp only[Q.run_bind]at hq
       cases hz:(fz (bx&&sp== .S) fJ (st.rho y')).run st.get st.sh.length with
       |none=>simp[hz]at hq
       |some p=>
        obtain⟨t',us⟩:=p
        simp only[hz,Option.bind_some]at hq
        split at hq
        ·simp[Q.run]at hq
        ·rename_i hh
         simp at hh
         obtain⟨⟨hh1,ZT⟩,hh3⟩:=hh
         simp[Q.run]at hq;obtain⟨rfl,rfl⟩:=hq
         obtain⟨M',q1,q2,q3,q4,q5⟩:=yu _ st fJ (st.rho y') B st w β M _ t' us _ (Fz.refl st) h vy hz
         have TD:(st.ups us).get sp k=⟨ge,.cells cs wm bx⟩:=by rw[nq st us sp k hh1];exact he
         refine CB (us:=us) ho hn q1 (Tr.fz q2 q3) vx.2 TD FT.1 FT.2 hh3 ?_ ?_
         ·exact(sy q4.toV ZT).2
         ·cases bx with
          |false=>
           simp only[Bool.false_and]at q4
           exact(wq q4 ZT).1
          |true=>
           cases sp with
           |L=>simp at SK
           |S=>
            simp only[Bool.true_and,beq_self_eq_true]at q4
            rw[q2.gens]
            exact fun fW G' p q=>(sy (q4 fW G' p q) ZT).1
     ·simp[Q.run]at hq
   ·simp[Q.run]at hq
  ·simp[Q.run]at hq
end
end Go.Ev
namespace Go.Ev
open Go
section
variable{P:Program}{B:jR}{st:St}{a:Act}{w:World}{β:fS}{M:fE}{o:Oper}{v:T}{ups:List Up}
variable(hZ:py β st.gens w M st.rho a.eval)(h:fY B st w β M)
theorem H8{t kt et:TypeId}{ek:EK}{m:Option Nat}{es:Array MapEntry}{clock:Nat}{ks vs:List T}{k z r:T}{kv zv:Value}{ok:Bool}(ht:P.underlying t=some (.map kt et))(hk:keyOf P kt=some ek)
  (hm:(m=none∧es= #[])∨ ∃blk,m=some blk∧w.heap[blk]? =some (.map es clock)) (hks:PList w M ks (es.toList.map (·.key))) (YZ:PList w M vs (es.toList.map (·.val))) (hkv:fk β st.gens w M k kv) (hz:(zeroValue et).run P w= .ok zv w) (hzr:PRel w M z zv)
  (hq:mX ek ks vs k z ok=some r): ∃cv,(Instr.lookup t (.map m) kv ok).run P w= .ok cv w∧fk β st.gens w M r cv:=by
 unfold mX at hq
 split at hq
 ·cases hq
 ·rename_i H5
  simp at H5
  have SI:(Instr.checkKey es.isEmpty 10000 kt kv).run P w= .ok () w:=yx (P:=P) hk hkv H5 9998 es.isEmpty
  have run: ∀res,(Instr.findKey kt kv es.toList).run P w= .ok res w→(Instr.lookup t (.map m) kv ok).run P w=
    .ok (match res with|some (_,cv)=>if ok then .tuple #[cv,.bool true]else cv|none=>if ok then .tuple #[zv,.bool false]else zv) w:=by
   intro res wz
   unfold Instr.lookup
   rcases hm with⟨rfl,rfl⟩|⟨blk,rfl,hb⟩
   ·simp only[Sem.run_bind,run_underlying ht,Result.andThen_ok,Sem.run_pure,SI,wz]
    cases res with
    |none=>simp[hz]
    |some p=>simp
   ·have wA:(getObj blk).run P w= .ok (.map es clock) w:=by simp[getObj,Sem.run,hb]
    simp only[Sem.run_bind,run_underlying ht,Result.andThen_ok,Sem.run_pure,wA,SI,wz]
    cases res with
    |none=>simp[hz]
    |some p=>simp
  split at hq
  ·rename_i i hf
   obtain⟨res,r1,r2⟩:=sx (P:=P) hk hkv es.toList ks _ hks hf
   obtain⟨e,e1,e2⟩:=r2
   simp only[Option.map_eq_some_iff]at hq
   obtain⟨v',hv',rfl⟩:=hq
   obtain⟨cv,c1,c2⟩:=YZ.get hv'
   rw[List.getElem?_map,e1]at c1
   simp at c1;subst c1
   refine⟨_,run res r1, ?_⟩
   subst e2
   cases ok
   ·exact PRel.toV _ _ _ _ c2
   ·simp only[if_true,fk,fo]
    exact⟨_,rfl,_,_,rfl,PRel.toV _ _ _ _ c2,_,_,rfl,rfl,rfl⟩
  ·rename_i hf
   simp at hq;subst hq
   obtain⟨res,r1,r2⟩:=sx (P:=P) hk hkv es.toList ks _ hks hf
   refine⟨_,run res r1, ?_⟩
   have:res=none:=r2
   subst this
   cases ok
   ·exact PRel.toV _ _ _ _ hzr
   ·simp only[if_true,fk,fo]
    exact⟨_,rfl,_,_,rfl,PRel.toV _ _ _ _ hzr,_,_,rfl,rfl,rfl⟩
  ·cases hq
include hZ h
theorem agH{d nx:Nat}{t kt et:TypeId}{m k:Operand}{m' k':fM}{ok:Bool}{ek:EK}{z:T}(ho:o.op= .lookup t m k ok)(hm:jO m=some m')(hk:jO k=some k')(ht:P.underlying t=some (.map kt et))(hek:keyOf P kt=some ek)(hz:rI P et=some z)
  (hq:(gA d st.rho (.lk ek m' k' z ok)).run st.get nx=some (.val v ups)):jr P B st a w β M o v ups:=by
 have vm:=hZ m m' hm
 have vk:=hZ k k' hk
 obtain⟨zv,z1,z2⟩:=CA hz w
 have fin: ∀(mm:Option Nat) (es:Array MapEntry) (clock:Nat) (ks vs:List T) (r:T),a.eval m= .map mm→((mm=none∧es= #[])∨ ∃blk,mm=some blk∧w.heap[blk]? =some (.map es clock))→PList w M ks (es.toList.map (·.key))→PList w M vs (es.toList.map (·.val))→
   mX ek ks vs (st.rho k') z ok=some r→jr P B st a w β M o r []:=by
  intro mm es clock ks vs r e1 e2 e3 e4 e5
  obtain⟨cv,r1,r2⟩:=H8 (P:=P) (β:=β) (st:=st) ht hek e2 e3 e4 vk z1 (z2 w M) e5
  exact fV h (cv:=cv) (by simp[execOp,ho,e1,r1]) r2
 simp only[gA]at hq
 split at hq
 ·rename_i e
  rw[e]at vm;simp only[fk]at vm
  split at hq
  ·rename_i H5
   simp[Q.run]at hq;obtain⟨rfl,rfl⟩:=hq
   exact fin none #[] 0 [] [] _ vm (.inl ⟨rfl,rfl⟩) (by simp[PList]) (by simp[PList]) (by simp[mX,H5,kB])
  ·simp[Q.run]at hq
 ·rename_i ks vs e
  rw[e]at vm;simp only[fk,PRel]at vm
  obtain⟨blk,es,clock,e1,e2,_,_,e3,e4⟩:=vm
  cases hl:mX ek ks vs (st.rho k') z ok with
  |none=>simp[hl,Ev.val,Q.run]at hq
  |some r=>
   simp[hl,Ev.val,Q.run]at hq;obtain⟨rfl,rfl⟩:=hq
   exact fin _ es clock ks vs _ e1 (.inr ⟨blk,rfl,e2⟩) e3 e4 hl
 ·rename_i sp kk g e
  rw[e]at vm;simp only[fk]at vm
  simp only[Q.run]at hq
  split at hq
  ·rename_i hg
   have An:=h.obj sp kk
   generalize he:st.get sp kk=en at*
   obtain⟨ge,ob⟩:=en
   dsimp only at hg;subst hg
   cases ob with
   |none=>simp[Q.run]at hq
   |cells _ _ _=>simp[Q.run]at hq
   |map ks vs f=>
    dsimp only at hq
    unfold jf at An
    obtain⟨es,clock,e2,_,e3,e4,_⟩:=An
    cases hl:mX ek ks vs (st.rho k') z ok with
    |none=>simp[hl,Ev.val,Q.run]at hq
    |some r=>
     simp[hl,Ev.val,Q.run]at hq;obtain⟨rfl,rfl⟩:=hq
     exact fin _ es clock ks vs _ vm.2 (.inr ⟨_,rfl,e2⟩) e3 e4 hl
  ·simp[Q.run]at hq
 ·simp[Q.run]at hq
omit hZ h
theorem PList.set{ts:List T}{vs:List Value}(i:Nat){t:T}{cv:Value}(h:PList w M ts vs)(ht:PRel w M t cv):PList w M (ts.set i t) (vs.set i cv):=by
 induction ts generalizing vs i with
 |nil=>simp only[PList]at h;subst h;simp[PList]
 |cons x xs ih=>
  simp only[PList]at h
  obtain⟨u,us,rfl,h1,h2⟩:=h
  cases i with
  |zero=>simp only[List.set_cons_zero,PList];exact⟨cv,us,rfl,ht,h2⟩
  |succ i=>simp only[List.set_cons_succ,PList];exact⟨u,_,rfl,h1,ih i h2⟩
theorem uU{c:CK}{x y:T}{xv yv:Value}(hx:fk β st.gens w M x xv)(hy:fk β st.gens w M y yv)(h:jD c x y=some true)(n:Nat):Instr.sameBits n yv xv=true:=by
 unfold jD at h
 split at h
 ·simp at h;subst h;rw[hx.bool,hy.bool];simp[Instr.sameBits]
 ·split at h
  ·rename_i e;subst e;simp at h;subst h;rw[hx.int,hy.int];simp[Instr.sameBits]
  ·cases h
 ·simp at h;subst h
  obtain⟨b1,e1,f1⟩:=hx.str
  obtain⟨b2,e2,f2⟩:=hy.str
  rw[e1,e2]
  have:(b2==b1)=true:=by
   rw[beq_toListBytes,←lr,←ig,←ig,f1,f2];simp
  simp only[Instr.sameBits];exact this
 ·cases h
theorem tH: ∀{ks:List CK} {xs ys:List T} {xv yv:List Value},fo β st.gens w M xs xv→fo β st.gens w M ys yv→iq ks xs ys=some true→ ∀n,xv.length=yv.length∧((yv.zip xv).all fun p=>Instr.sameBits n p.1 p.2)=true
 | [],xs,ys,xv,yv,hx,hy,h,n=>by
   cases xs <;> cases ys <;> simp[iq]at h
   simp only[fo]at hx hy;subst hx;subst hy;simp
 |k::ks,xs,ys,xv,yv,hx,hy,h,n=>by
  cases xs with
  |nil=>cases ys <;> simp[iq]at h
  |cons x xs=>
   cases ys with
   |nil=>simp[iq]at h
   |cons y ys=>
    simp only[fo]at hx hy
    obtain⟨u,us,rfl,h1,h2⟩:=hx
    obtain⟨u',us',rfl,pJ,yA⟩:=hy
    simp only[iq]at h
    cases hc:jD k x y with
    |none=>simp[hc]at h
    |some b=>
     cases b with
     |false=>simp[hc]at h
     |true=>
      simp only[hc]at h
      obtain⟨l1,l2⟩:=tH h2 yA h n
      simp only[List.length_cons,List.zip_cons_cons,List.all_cons,Bool.and_eq_true]
      exact⟨by omega,uU h1 pJ hc n,l2⟩
theorem DM{ek:EK}{x y:T}{xv yv:Value}(qM:(∃c,ek= .one c)∨ ∃ks,ek= .flat ks)(hx:fk β st.gens w M x xv)(hy:fk β st.gens w M y yv)(h:tB ek x y=some true)(n:Nat):Instr.sameBits (n+1) yv xv=true:=by
 rcases qM with⟨c,rfl⟩|⟨ks,rfl⟩
 ·exact uU hx hy h _
 ·unfold tB at h
  split at h <;> simp_all
  rename_i xs ys
  simp only[fk]at hx hy
  obtain⟨xa,rfl,lx,_⟩:=hx
  obtain⟨ya,rfl,ly,_⟩:=hy
  obtain⟨l1,l2⟩:=tH lx ly h n
  simp only[Instr.sameBits,Bool.and_eq_true]
  refine⟨by simp at l1 ⊢; exact l1.symm,l2⟩
theorem FV{ek:EK}{k:T}: ∀{ks:List T} {i:Nat},kB ek k ks=some (some i)→ ∃x,ks[i]? =some x∧tB ek k x=some true
 | [],i,h=>by simp[kB]at h
 |x::xs,i,h=>by
  simp only[kB]at h
  split at h
  ·rename_i he;simp at h;subst h;exact⟨x,rfl,he⟩
  ·simp only[Option.map_eq_some_iff]at h
   obtain⟨r,h1,h2⟩:=h
   cases r with
   |none=>simp at h2
   |some j=>
    simp at h2;subst h2
    obtain⟨y,e1,e2⟩:=FV h1
    exact⟨y,by simpa using e1,e2⟩
  ·cases h
theorem yB{c:CK}{x y:T}{xv yv:Value}(hx:fk β st.gens w M x xv)(hy:fk β st.gens w M y yv)(h:jD c x y=some true):xv=yv:=by
 unfold jD at h
 split at h
 ·simp at h;subst h;rw[hx.bool,hy.bool]
 ·split at h
  ·rename_i e;subst e;simp at h;subst h;rw[hx.int,hy.int]
  ·cases h
 ·simp at h;subst h
  obtain⟨b1,e1,f1⟩:=hx.str
  obtain⟨b2,e2,f2⟩:=hy.str
  rw[e1,e2]
  have h3:ga b1=ga b2:=f1.trans f2.symm
  have h4:b1.data.toList=b2.data.toList:=(List.map_inj_right (f:=UInt8.toNat) (fun _ _ h=>UInt8.toNat_inj.1 h)).1 h3
  have h5:b1=b2:=ByteArray.ext (Array.toList_inj.1 h4)
  rw[h5]
 ·cases h
theorem wB: ∀{ks:List CK} {xs ys:List T} {xv yv:List Value},fo β st.gens w M xs xv→fo β st.gens w M ys yv→iq ks xs ys=some true→xv=yv
 | [],xs,ys,xv,yv,hx,hy,h=>by
   cases xs <;> cases ys <;> simp[iq]at h
   simp only[fo]at hx hy;subst hx;subst hy;rfl
 |k::ks,xs,ys,xv,yv,hx,hy,h=>by
  cases xs with
  |nil=>cases ys <;> simp[iq]at h
  |cons x xs=>
   cases ys with
   |nil=>simp[iq]at h
   |cons y ys=>
    simp only[fo]at hx hy
    obtain⟨u,us,rfl,h1,h2⟩:=hx
    obtain⟨u',us',rfl,pJ,yA⟩:=hy
    simp only[iq]at h
    cases hc:jD k x y with
    |none=>simp[hc]at h
    |some b=>
     cases b with
     |false=>simp[hc]at h
     |true=>
      simp only[hc]at h
      rw[yB h1 pJ hc,wB h2 yA h]
theorem O6{ek:EK}{x y:T}{xv yv:Value}(qM:(∃c,ek= .one c)∨ ∃ks,ek= .flat ks)(hx:fk β st.gens w M x xv)(hy:fk β st.gens w M y yv)(h:tB ek x y=some true):xv=yv:=by
 rcases qM with⟨c,rfl⟩|⟨ks,rfl⟩
 ·exact yB hx hy h
 ·unfold tB at h
  split at h <;> simp_all
  rename_i xs ys
  simp only[fk]at hx hy
  obtain⟨xa,rfl,lx,_⟩:=hx
  obtain⟨ya,rfl,ly,_⟩:=hy
  have:=wB lx ly h
  rw[Array.toList_inj.1 this]
theorem wC{c:CK}{x y:T}{v:Value}(hx:fk β st.gens w M x v)(hy:fk β st.gens w M y v)(h:jD c x y=some false):False:=by
 unfold jD at h
 split at h
 ·have e:=hx.bool;rw[hy.bool]at e;cases e;simp at h
 ·split at h
  ·rename_i e;subst e
   have e:=hx.int;rw[hy.int]at e;cases e;simp at h
  ·cases h
 ·obtain⟨b1,e1,f1⟩:=hx.str
  obtain⟨b2,e2,f2⟩:=hy.str
  rw[e1]at e2;cases e2
  rw[←f1,←f2]at h;simp at h
 ·cases h
theorem uV: ∀{ks:List CK} {xs ys:List T} {v:List Value},fo β st.gens w M xs v→fo β st.gens w M ys v→iq ks xs ys=some false→False
 | [],xs,ys,v,hx,hy,h=>by
   cases xs <;> cases ys <;> simp[iq]at h
 |k::ks,xs,ys,v,hx,hy,h=>by
  cases xs with
  |nil=>cases ys <;> simp[iq]at h
  |cons x xs=>
   cases ys with
   |nil=>simp[iq]at h
   |cons y ys=>
    simp only[fo]at hx hy
    obtain⟨u,us,rfl,h1,h2⟩:=hx
    obtain⟨u',us',e,pJ,yA⟩:=hy
    cases e
    simp only[iq]at h
    cases hc:jD k x y with
    |none=>simp[hc]at h
    |some b=>
     cases b with
     |false=>exact wC h1 pJ hc
     |true=>
      simp only[hc]at h
      exact uV h2 yA h
theorem LZ{ek:EK}{x y:T}{v:Value}(qM:(∃c,ek= .one c)∨ ∃ks,ek= .flat ks)(hx:fk β st.gens w M x v)(hy:fk β st.gens w M y v)(h:tB ek x y=some false):False:=by
 rcases qM with⟨c,rfl⟩|⟨ks,rfl⟩
 ·exact wC hx hy h
 ·unfold tB at h
  split at h <;> simp_all
  rename_i xs ys
  simp only[fk]at hx hy
  obtain⟨xa,rfl,lx,_⟩:=hx
  obtain⟨ya,e,ly,_⟩:=hy
  cases e
  exact uV lx ly h
theorem Aw{ek:EK}{k:T}: ∀{ks:List T},kB ek k ks=some none→ ∀x∈ks,tB ek k x=some false
 | [],h,x,hx=>by simp at hx
 |y::ys,h,x,hx=>by
  simp only[kB]at h
  split at h
  ·simp at h
  ·rename_i he
   simp only[Option.map_eq_some_iff]at h
   obtain⟨r,h1,h2⟩:=h
   cases r with
   |some j=>simp at h2
   |none=>
    rcases List.mem_cons.1 hx with rfl|hx
    ·exact he
    ·exact Aw h1 x hx
  ·cases h
theorem PList.getV{w:World}{M:fE}: ∀{ts:List T} {vs:List Value},PList w M ts vs→ ∀{j:Nat} {v:Value},vs[j]? =some v→ ∃t,ts[j]? =some t∧PRel w M t v
 | [],vs,h,j,v,hv=>by simp only[PList]at h;subst h;simp at hv
 |x::xs,vs,h,j,v,hv=>by
  simp only[PList]at h
  obtain⟨u,us,rfl,h1,h2⟩:=h
  cases j with
  |zero=>simp at hv;subst hv;exact⟨x,rfl,h1⟩
  |succ j=>obtain⟨t,e1,e2⟩:=PList.getV h2 (j:=j) (v:=v) (by simpa using hv);exact⟨t,by simpa using e1,e2⟩
theorem X8(h:fY B st w β M){sp:Sp}{k g:Nat}{ks vs:List T}(he:st.get sp k=⟨g,.map ks vs false⟩)(FW:Array MapEntry)(qk:Nat)(ame:MapKept.Stamped FW qk)(XZ uL:List T)(hk:PList w M XZ (FW.toList.map (·.key)))(hv:PList w M uL (FW.toList.map (·.val))):
  fY B (st.up (sp,k,⟨g,.map XZ uL false⟩)) (setBlock w (β sp k g).blk (.map FW qk)) β M∧Tr st w β M (st.up (sp,k,⟨g,.map XZ uL false⟩)) (setBlock w (β sp k g).blk (.map FW qk)) β M:=by
 have hg:st.gens sp k=g:=by show(st.get sp k).g=g;rw[he]
 have ZR:live (st.get sp k):=by rw[he];trivial
 have ho:=h.obj sp k
 rw[he]at ho
 unfold jf at ho
 obtain⟨es,clock,h1,_,h2,h3,h4⟩:=ho
 dsimp only at h1 h4
 have TC:=mH h1
 have hkp:iW w M (setBlock w (β sp k g).blk (.map FW qk)) M:=by
  refine⟨fun b x u hu hm=> ?_,fun b es cl hu hm=> ?_,fun _ _ _ h=>h⟩
  ·by_cases EY:b=(β sp k g).blk
   ·subst EY;exact absurd (h4 rfl x) hm
   ·rw[nn (w:=w) (by rw[iO,if_neg (fun e=>EY e.1)])];exact hu
  ·by_cases EY:b=(β sp k g).blk
   ·subst EY;exact absurd (h4 rfl 0) (hm 0)
   ·rw[iO,if_neg (fun e=>EY e.1)];exact hu
 have key:=JV (M':=M) h sp k g (.map XZ uL false) ZR (Nat.le_of_eq hg) (.map FW qk) (fun _ _ hm=>hm) (fun _ _ _ hm=>hm) (by rw[hg];exact hkp) (h.base ZR)
 rw[hg,rM]at key
 refine key ?_
 exact⟨FW,qk,by rw[iO,if_pos ⟨rfl,TC⟩],ame,PList.mono hkp _ _ hk,PList.mono hkp _ _ hv,h4⟩
include hZ h
theorem agI{d:Nat}{t kt et:TypeId}{m k x:Operand}{m' k' x':fM}{ek:EK}(ho:o.op= .mapUpdate t m k x)(hm:jO m=some m')(hk:jO k=some k')(hx:jO x=some x')(ht:P.underlying t=some (.map kt et))(hek:keyOf P kt=some ek)
  (hq:(gA d st.rho (.mu ek m' k' x')).run st.get st.sh.length=some (.val v ups)):jr P B st a w β M o v ups:=by
 have vm:=hZ m m' hm
 have vk:=hZ k k' hk
 have vx:=hZ x x' hx
 simp only[gA]at hq
 split at hq
 ·rename_i sp kk g e
  rw[e]at vm;simp only[fk]at vm
  simp only[Q.run]at hq
  split at hq
  ·rename_i hg
   simp at hg
   obtain⟨hg,H5⟩:=hg
   generalize he:st.get sp kk=en at*
   obtain⟨ge,ob⟩:=en
   dsimp only at hg;subst hg
   split at hq
   ·rename_i ks vs heq
    dsimp only at heq;subst heq
    simp only[Q.run_bind]at hq
    cases hz:(fz false fJ (st.rho x')).run st.get st.sh.length with
    |none=>simp[hz]at hq
    |some p=>
     obtain⟨t',us⟩:=p
     simp only[hz,Option.bind_some]at hq
     split at hq
     ·rename_i q j5
      split at hq
      ·simp[Q.run]at hq
      ·rename_i hh
       simp at hh
       simp[Q.run]at hq;obtain⟨rfl,rfl⟩:=hq
       obtain⟨M',q1,q2,q3,q4,q5⟩:=yu _ st fJ (st.rho x') B st w β M _ t' us _ (Fz.refl st) h vx hz
       have q4':PRel w M' t' (a.eval x):=q4
       have TD:(st.ups us).get sp kk=⟨ge,.map ks vs false⟩:=by rw[nq st us sp kk hh];exact he
       have An:=q1.obj sp kk
       rw[TD]at An
       unfold jf at An
       obtain⟨es,clock,e2,lX,e3,e4,_⟩:=An
       dsimp only at e2
       have SL:fk β st.gens w M' (st.rho k') (a.eval k):=fk.mono (iL q3) (fun _ _ _ _=>rfl) (fun _ _=>Nat.le_refl _) _ _ vk
       have SI:(Instr.checkKey false 10000 kt (a.eval k)).run P w= .ok () w:=yx (P:=P) hek SL H5 9998 false
       obtain⟨_,qM⟩:=H4 hek
       have kp:PRel w M' (st.rho k') (a.eval k):=by
        generalize st.rho k'=tk at*
        cases tk <;> rcases qM with⟨c,rfl⟩|⟨cs,rfl⟩ <;> (try (cases c)) <;> simp[isKey,DG]at H5
        all_goals first
         |(simp only[fk]at SL;simp only[PRel];exact SL;done)
         |skip
        rename_i xs
        simp only[fk]at SL
        obtain⟨arr,e5,l5,s5⟩:=SL
        simp only[PRel]
        refine⟨arr,e5, ?_,s5⟩
        have: ∀(cs:List CK) (xs:List T) (vs:List Value),pI cs xs=true→fo β st.gens w M' xs vs→PList w M' xs vs:=by
         intro cs
         induction cs with
         |nil=>intro xs vs hc hv;cases xs <;> simp[pI]at hc;simpa only[fo,PList]using hv
         |cons c cs ih=>
          intro xs vs hc hv
          cases xs with
          |nil=>simp[pI]at hc
          |cons x xs=>
           simp only[pI,Bool.and_eq_true]at hc
           simp only[fo]at hv;simp only[PList]
           obtain⟨u,us,rfl,w1,w2⟩:=hv
           refine⟨u,us,rfl, ?_,ih xs us hc.2 w2⟩
           cases c <;> cases x <;> simp[DG]at hc <;> simp only[fk]at w1 <;> simp only[PRel] <;> exact w1
        exact this _ _ _ H5 l5
       have run: ∀(res:Option (Nat×Value)) (FW:Array MapEntry) (qk:Nat),(Instr.findKey kt (a.eval k) es.toList).run P w= .ok res w→
         (match res with
           |some (i,_)=>do
            let key ←Instr.keyThatStays (((es[i]?).map (fun e:MapEntry=>e.key)).getD (a.eval k)) (a.eval k)
            setObj (β sp kk ge).blk (.map (es.modify i fun e=>{e with key,val:=a.eval x}) clock)
           |none=>setObj (β sp kk ge).blk (.map (es.push {key:=a.eval k,val:=a.eval x,born:=clock}) (clock+1))).run P w= .ok () (setBlock w (β sp kk ge).blk (.map FW qk))→
         (execOp a.eval o).run P w= .ok .skip (setBlock w (β sp kk ge).blk (.map FW qk)):=by
        intro res FW qk wz FX
        have:(Instr.mapUpdate t (.map (some (β sp kk ge).blk)) (a.eval k) (a.eval x)).run P w= .ok () (setBlock w (β sp kk ge).blk (.map FW qk)):=by
         unfold Instr.mapUpdate
         simp only[Sem.run_bind,run_underlying ht,Result.andThen_ok]
         have wA:(getObj (β sp kk ge).blk).run P w= .ok (.map es clock) w:=by simp[getObj,Sem.run,e2]
         simp only[wA,Result.andThen_ok,Sem.run_bind,SI,wz]
         cases res with
         |none=>exact FX
         |some p=>exact FX
        simp[execOp,ho,vm.2,this]
       have FX: ∀(FW:Array MapEntry) (c':Nat),(setObj (β sp kk ge).blk (.map FW c')).run P w= .ok () (setBlock w (β sp kk ge).blk (.map FW c')):=by
        intro FW c';simp[setObj,Sem.run,e2,setBlock]
       unfold pH at j5
       split at j5
       ·rename_i i hf
        simp at j5;subst j5
        obtain⟨res,r1,e,r2,r3⟩:=sx (P:=P) hek SL es.toList ks _ e3 hf
        obtain⟨kx,kx1,kx2⟩:=FV hf
        obtain⟨kcv,kc1,kc2⟩:=e3.get kx1
        rw[List.getElem?_map,r2]at kc1
        simp at kc1
        have hsb:=DM (β:=β) (st:=st) qM SL (PRel.toV β st.gens _ _ kc2) kx2 9999
        have hei:es[i]? =some e:=by simpa using r2
        simp only[Nat.zero_add]at r3
        have hkt:(Instr.keyThatStays (((es[i]?).map (fun e:MapEntry=>e.key)).getD (a.eval k)) (a.eval k)).run P w= .ok (a.eval k) w:=by
         rw[hei];simp only[Option.map_some,Option.getD_some,kc1]
         unfold Instr.keyThatStays
         rw[if_pos hsb];rfl
        obtain⟨hh1,ZT⟩:=X8 q1 TD (es.modify i fun e=>{e with key:=a.eval k,val:=a.eval x}) clock (MapKept.stamped_modify lX i _ (fun _ _=>rfl) (fun e' _ Nw=>by
         have hh:e'=e:=by rw[hei]at Nw;exact(Option.some.inj Nw).symm
         subst hh
         exact(O6 qM SL (PRel.toV β st.gens _ _ kc2) kx2).trans kc1.symm)) (ks.set i (st.rho k')) (vs.set i t') (by
         have:=PList.set i e3 kp
         have e5:(es.modify i fun e=>{e with key:=a.eval k,val:=a.eval x}).toList.map (·.key)=(es.toList.map (·.key)).set i (a.eval k):=by
          apply List.ext_getElem?;intro j
          rw[Array.toList_modify,List.getElem?_map,List.getElem?_modify,List.getElem?_set,List.getElem?_map]
          by_cases hj:i=j
          ·subst hj;rw[r2];simp;exact(List.getElem?_eq_some_iff.1 r2).1
          ·simp[hj]
         rw[e5];exact this) (by
         have:=PList.set i e4 q4'
         have e5:(es.modify i fun e=>{e with key:=a.eval k,val:=a.eval x}).toList.map (·.val)=(es.toList.map (·.val)).set i (a.eval x):=by
          apply List.ext_getElem?;intro j
          rw[Array.toList_modify,List.getElem?_map,List.getElem?_modify,List.getElem?_set,List.getElem?_map]
          by_cases hj:i=j
          ·subst hj;rw[r2];simp;exact(List.getElem?_eq_some_iff.1 r2).1
          ·simp[hj]
         rw[e5];exact this)
        refine⟨.skip,undef,_,β,M',run res _ clock r1 ?_,.inr ⟨rfl,rfl⟩,by rw[iY];exact hh1,by rw[iY];exact(Tr.fz q2 q3).trans ZT (Nat.le_refl _),by rw[jL];exact Nat.le_refl _,by simp[fk,gf,undef,fo]⟩
        subst r3
        simp only[Sem.run_bind,hkt,Result.andThen_ok]
        exact FX _ _
       ·rename_i hf
        simp at j5;subst j5
        obtain⟨res,r1,r2⟩:=sx (P:=P) hek SL es.toList ks _ e3 hf
        have:res=none:=r2
        subst this
        obtain⟨hh1,ZT⟩:=X8 q1 TD (es.push {key:=a.eval k,val:=a.eval x,born:=clock}) (clock+1) (MapKept.stamped_push lX (fun y hy Nw=>by
         obtain⟨j,hj⟩:=List.getElem?_of_mem hy
         obtain⟨kx,kx1,kx2⟩:=e3.getV (j:=j) (v:=y.key) (by rw[List.getElem?_map,hj];rfl)
         rw[Nw]at kx2
         exact LZ qM SL (PRel.toV β st.gens _ _ kx2) (Aw hf _ (List.mem_of_getElem? kx1)))) (ks++ [st.rho k']) (vs++ [t']) (by
         simp only[Array.toList_push,List.map_append,List.map_cons,List.map_nil]
         exact PList.append e3 (by simp only[PList];exact⟨_,_,rfl,kp,rfl⟩)) (by
         simp only[Array.toList_push,List.map_append,List.map_cons,List.map_nil]
         exact PList.append e4 (by simp only[PList];exact⟨_,_,rfl,q4',rfl⟩))
        exact⟨.skip,undef,_,β,M',run none _ (clock+1) r1 (FX _ _),.inr ⟨rfl,rfl⟩,by rw[iY];exact hh1,by rw[iY];exact(Tr.fz q2 q3).trans ZT (Nat.le_refl _),by rw[jL];exact Nat.le_refl _,by simp[fk,gf,undef,fo]⟩
       ·cases j5
     ·simp[Q.run]at hq
   ·simp[Q.run]at hq
  ·simp[Q.run]at hq
 ·simp[Q.run]at hq
end
end Go.Ev
namespace Go.Ev
open Go
theorem CC(xK:Nat): ∀(r c:Nat),c≤xK+(xK+768)/4→Builtin.growBy xK r c≤xK+(xK+768)/4
 |0,c,h=>by simpa[Builtin.growBy]using h
 |r+1,c,h=>by
  simp only[Builtin.growBy]
  split
  ·exact h
  ·exact CC xK r _ (by omega)
theorem TE(yY LX:Nat)(h:LX<yY):Builtin.nextslicecap yY LX≤2*yY+192:=by
 unfold Builtin.nextslicecap
 split
 ·omega
 ·split
  ·omega
  ·have:=CC yY 4 LX (by omega)
   omega
theorem L0{yY LX bytes:Nat}(h:LX<yY)(hb:yY*bytes≤1099511627776)(h0:bytes≠0):Builtin.nextslicecap yY LX*bytes≤281474976710656:=by
 have h1:=Nat.mul_le_mul_right bytes (TE yY LX h)
 have h2:bytes≤yY*bytes:=Nat.le_mul_of_pos_left bytes (by omega)
 have h3:(2*yY+192)*bytes=2*(yY*bytes)+192*bytes:=by rw[Nat.add_mul,Nat.mul_assoc]
 omega
section
variable{P:Program}{B:jR}{st:St}{a:Act}{w:World}{β:fS}{M:fE}{o:Oper}{v:T}{ups:List Up}
theorem B3(h:fY B st w β M){sz nx n:Nat}{x:T}{cx:Value}{xs:List T}(vx:fk β st.gens w M x cx)(hq:(gU sz x).run st.get nx=some (n,xs)):
  ∃news:List Value,(∀w':World,w'.heap=w.heap→(Builtin.lenOf cx).run P w'= .ok n w'∧(Builtin.firstCells sz n cx).run P w'= .ok news.toArray w')∧PList w M xs news∧xs.all single=true∧xs.length=n*sz:=by
 unfold gU at hq
 split at hq
 ·simp[Q.run]at hq;obtain⟨rfl,rfl⟩:=hq
  simp only[fk]at vx;subst vx
  exact⟨[],fun w' _=>⟨by simp[Builtin.lenOf],by simp[Builtin.firstCells]⟩,by simp[PList],rfl,by simp⟩
 ·rename_i cs len ex
  split at hq
  ·rename_i hl
   simp[Q.run]at hq;obtain⟨rfl,rfl⟩:=hq
   simp only[fk,PRel]at vx
   obtain⟨blk,off,cap,sp,rfl,h1,h2,h5,h3⟩:=vx
   obtain⟨vs,e1,e2,e3,e4⟩:=fI.load (P:=P) h3
   refine⟨vs,fun w' hw=>⟨by simp[Builtin.lenOf], ?_⟩,e3,e4,hl⟩
   have:=run_loadCells_list (P:=P) w' ⟨blk,off,sp⟩ vs (fun j u hu=>by
    rcases h5 with h5|h5
    ·subst h5
     rw[kC]
     have:=e2 j u hu
     unfold World.cell? at this ⊢; rw[hw];exact this
    ·exfalso
     have hz:len=0:=by omega
     have h0:vs= []:=List.length_eq_zero_iff.1 (by rw[e1,hl,hz,Nat.zero_mul])
     subst h0;simp at hu)
   rw[e1,hl]at this
   simp[Builtin.firstCells,this]
  ·simp[Q.run]at hq
 ·rename_i sp k g off len pn
  split at hq
  ·rename_i nL
   subst nL
   simp only[Q.run]at hq
   split at hq
   ·rename_i hg
    have An:=h.obj sp k
    generalize he:st.get sp k=en at*
    obtain⟨ge,ob⟩:=en
    dsimp only at hg;subst hg
    cases ob with
    |none=>simp[Q.run]at hq
    |map _ _ _=>simp[Q.run]at hq
    |cells cs wm bx=>
     cases bx with
     |true=>simp[Q.run]at hq
     |false=>
      dsimp only at hq
      split at hq
      ·rename_i hle
       simp[Q.run]at hq;obtain⟨rfl,rfl⟩:=hq
       unfold jf at An
       obtain⟨c,el,fz,h1,h2,h3,h4,h5,h6,h7,h8⟩:=An
       dsimp only at h1 h2 h3 h5
       simp only[fk]at vx
       obtain⟨q1,cap,rfl,q2,q3⟩:=vx
       have J1:=PList.take (len*pn) (PList.drop off h5)
       rw[List.drop_take,List.drop_drop,List.take_take]at J1
       have ami:min (len*pn) (cs.length-off)=len*pn:=by omega
       rw[ami]at J1
       have hlen:((cs.drop off).take (len*pn)).length=len*pn:=by simp;omega
       refine⟨(c.toList.drop ((β sp k ge).off+off)).take (len*pn),fun w' hw=>⟨by simp[Builtin.lenOf], ?_⟩,J1,ma h7 _ _,hlen⟩
       have L1:=PList.length _ _ J1
       rw[hlen]at L1
       have:=run_loadCells_list (P:=P) w' ⟨(β sp k ge).blk,(β sp k ge).off+off,none⟩ ((c.toList.drop ((β sp k ge).off+off)).take (len*pn)) (fun j u hu=>by
        rw[kC]
        rw[List.getElem?_take]at hu
        split at hu
        ·rw[List.getElem?_drop]at hu
         unfold World.cell?;rw[hw,h1];simpa using hu
        ·cases hu)
       rw[←L1]at this
       simp[Builtin.firstCells,this]
      ·simp[Q.run]at hq
   ·simp[Q.run]at hq
  ·simp[Q.run]at hq
 ·rename_i l
  split at hq
  ·rename_i nL
   subst nL
   simp[Q.run]at hq;obtain⟨rfl,rfl⟩:=hq
   obtain⟨bs,rfl,rfl⟩:=vx.str
   refine⟨bs.data.toList.map fun b=> .int .u8 b.toNat,fun w' _=>⟨by simp[Builtin.lenOf,kH], ?_⟩, ?_, ?_,by simp⟩
   ·have e1:(bs.extract 0 bs.size).data=bs.data:=by
     apply Array.ext'
     rw[ByteArray.data_extract,Array.toList_extract,List.extract_eq_take_drop]
     rw[List.drop_zero]
     exact List.take_of_length_le (by show bs.data.toList.length≤bs.data.size-0;simp)
    simp only[Builtin.firstCells,kH,e1,Sem.run_pure]
    congr 1
    apply Array.ext';simp
   ·unfold ga
    rw[List.map_map]
    generalize bs.data.toList=l
    induction l with
    |nil=>simp[PList]
    |cons b l ih=>simp only[List.map_cons,PList];exact⟨_,_,rfl,by simp[PRel],ih⟩
   ·rw[List.all_eq_true];intro x hx;simp at hx;obtain⟨_,_,rfl⟩:=hx;rfl
  ·simp[Q.run]at hq
 ·simp[Q.run]at hq
theorem FY{t u ty e:TypeId}{ud:TypeDesc}{i:TypeInfo}{z:Value}(ht:P.underlying t=some (.slice e))(hu:P.underlying u=some ud)(SM:ud= .string∨ ∃e',ud= .slice e')(hi:P.info? e=some i)(hz:i.zero=some z)
  {base:Option Addr} {jj mb n:Nat} {cx:Value} {wD news:List Value} (hn:(Builtin.lenOf cx).run P w= .ok n w) (CD:(Builtin.firstCells i.size n cx).run P w.drew= .ok news.toArray w.drew) (holds:(Builtin.firstCells i.size jj (.slice base jj mb)).run P w.drew= .ok wD.toArray w.drew)
  (hg:mb<jj+n) (hb:(jj+n)*i.bytes≤1099511627776) (h0:i.bytes≠0):
  (Builtin.append_ #[t,u] ty #[.slice base jj mb,cx]).run P w= .ok (.slice (some ⟨w.heap.size,0,none⟩) (jj+n) (grownCap w (jj+n) mb e))
     (w.drew.alloc (.cells (wD.toArray++news.toArray++Builtin.zeroCells z.cells (grownCap w (jj+n) mb e-(jj+n))) e)):=by
 have hn': ¬(jj+n≤mb):=by omega
 have jm:jj+n≤(jj+n)*i.bytes:=Nat.le_mul_of_pos_right _ (by omega)
 have uM: ¬(9223372036854775807<((jj:Int)+(n:Int))):=by omega
 have J8: ¬(281474976710656<Builtin.nextslicecap (jj+n) mb*i.bytes):=by have:=L0 hg hb h0;omega
 rcases SM with rfl|⟨e',rfl⟩ <;>
 ·simp[Builtin.append_,run_underlying ht,run_underlying hu,sizeOf,typeInfo,zeroValue,hi,hz,hn,hn',uM,J8,Question.forced,CD,holds,newRow,grownCap]
  congr 2
  apply Array.ext'
  simp[List.append_assoc]
theorem yC{t u ty e:TypeId}{ud:TypeDesc}{i:TypeInfo}(ht:P.underlying t=some (.slice e))(hu:P.underlying u=some ud)(SM:ud= .string∨ ∃e',ud= .slice e')(hi:P.info? e=some i)
  {base:Option Addr} {jj mb n:Nat} {cx:Value} {news:List Value} {w':World} (hn:(Builtin.lenOf cx).run P w= .ok n w) (CD:(Builtin.firstCells i.size n cx).run P w= .ok news.toArray w)
  (kZ:jj+n≤mb) (lX:match base with|some ad=>(storeCells (ad.add (jj*i.size)) news).run P w= .ok () w'|none=>w'=w):
  (Builtin.append_ #[t,u] ty #[.slice base jj mb,cx]).run P w= .ok (.slice base (jj+n) mb) w':=by
 rcases SM with rfl|⟨e',rfl⟩ <;>
 ·cases base with
  |none=>
   dsimp only at lX;subst lX
   simp[Builtin.append_,run_underlying ht,run_underlying hu,sizeOf,typeInfo,hi,hn,kZ,CD]
  |some ad=>
   dsimp only at lX
   simp[Builtin.append_,run_underlying ht,run_underlying hu,sizeOf,typeInfo,hi,hn,kZ,CD,lX]
theorem TF{bx:Bool}(h:fY B st w β M)(el:TypeId)(c:Array Value)(cs:List T)(wm:Nat)(sp:Sp)(k g:Nat)(hg:st.gens sp k<g)
  (hl:PList w M cs (c.toList.take cs.length)) (hs:cs.all single=true) (hle:cs.length≤c.size) (FT:wm≤cs.length):
  fY B (st.up (sp,k,⟨g,.cells cs wm bx⟩)) (w.alloc (.cells c el)) (l6 β sp k g ⟨w.heap.size,0,c.size⟩) (fun b x=>M b x∨b=w.heap.size)∧
  Tr st w β M (st.up (sp,k,⟨g,.cells cs wm bx⟩)) (w.alloc (.cells c el)) (l6 β sp k g ⟨w.heap.size,0,c.size⟩) (fun b x=>M b x∨b=w.heap.size):=by
 refine OW h sp k g hg (.cells c el) c.size (.cells cs wm bx) ?_
 unfold jf
 simp only[gX]
 refine⟨c,el,(0,0),by rw[heap_alloc,if_pos rfl],by omega,hle,rfl, ?_,fun j _ _=>Or.inr (by trivial),hs,FT⟩
 simp only[List.drop_zero]
 exact oI.ofP (PList.mono (sv w M _) _ _ hl)
variable(hZ:py β st.gens w M st.rho a.eval)(h:fY B st w β M)
include hZ h
theorem ZU{d:Nat}{sh nm:Bool}{c:Call}{t u e:TypeId}{ud:TypeDesc}{i:TypeInfo}{z:Value}{s x:Operand}{s' x':fM}(ho:o.op= .call c)(hb:c.callee= .builtin .append)(uI:c.argTypes.toList= [t,u])(has:c.args.toList= [s,x])
  (ht:P.underlying t=some (.slice e)) (hu:P.underlying u=some ud) (SM:ud= .string∨ ∃e',ud= .slice e') (hi:P.info? e=some i) (hz:i.zero=some z) (nL:i.size=z.cells.size) (h0:i.size≠0) (hby:i.bytes≠0) (hs:jO s=some s') (hx:jO x=some x')
  (hq:(gA d st.rho (.app i.size i.bytes s' x' sh nm)).run st.get st.sh.length=some (.val v ups)):jr P B st a w β M o v ups:=by
 have vs:=hZ s s' hs
 have vx:=hZ x x' hx
 have lN:c.argTypes= #[t,u]:=by apply Array.ext';simp[uI]
 have exec: ∀cv w',(Builtin.append_ #[t,u] o.type #[a.eval s,a.eval x]).run P w= .ok cv w'→(execOp a.eval o).run P w= .ok (.value cv) w':=by
  intro cv w' hr
  rw[jg ho hb,Tu has,lN]
  simp[builtin,hr]
 simp only[gA,qe,Q.run_bind]at hq
 cases k6:(gU i.size (st.rho x')).run st.get st.sh.length with
 |none=>simp[k6]at hq
 |some p=>
  obtain⟨n,xs⟩:=p
  simp only[k6,Option.bind_some]at hq
  obtain⟨news,yZ,n1,n2,n3⟩:=B3 (P:=P) h vx k6
  have FZ:news.length=n*i.size:=by rw[←PList.length _ _ n1,n3]
  by_cases hn0:n=0
  ·rw[if_pos hn0]at hq
   subst hn0
   have CD:news= []:=by apply List.eq_nil_of_length_eq_zero;simpa using FZ
   subst CD
   have same: ∀base jj mb,a.eval s= .slice base jj mb→jj≤mb→jr P B st a w β M o (st.rho s') []:=by
    intro base jj mb es hle
    refine fV h (cv:= .slice base jj mb) ?_ (by rw[←es];exact vs)
    have:=yC (P:=P) (w:=w) (w':=w) (t:=t) (u:=u) (ty:=o.type) (base:=base) (jj:=jj) (mb:=mb) (cx:=a.eval x) (n:=0) (news:= []) ht hu SM hi (yZ w rfl).1 (yZ w rfl).2 (by omega) (by cases base <;> simp[storeCells])
    exact exec _ _ (by rw[es];exact this)
   split at hq
   ·rename_i es
    simp[Q.run]at hq;obtain⟨rfl,rfl⟩:=hq
    have uL:=vs;rw[es]at uL;simp only[fk]at uL
    exact same _ _ _ uL (Nat.le_refl _)
   ·rename_i cs len ex es
    simp[Q.run]at hq;obtain⟨rfl,rfl⟩:=hq
    have uL:=vs;rw[es]at uL;simp only[fk,PRel]at uL
    obtain⟨blk,off,cap,sp,e1,e2,_⟩:=uL
    exact same _ _ _ e1 e2
   ·rename_i sp k g off len sz es
    simp[Q.run]at hq;obtain⟨rfl,rfl⟩:=hq
    have uL:=vs;rw[es]at uL;simp only[fk]at uL
    obtain⟨_,cap,e1,e2,_⟩:=uL
    exact same _ _ _ e1 e2
   ·simp[Q.run]at hq
  ·rw[if_neg hn0]at hq
   have hz0:z.cells.size≠0:=by omega
   have grow: ∀(bx:Bool) (base:Option Addr) (jj mb:Nat) (wD:List Value) (os:List T) (sp:Sp) (k g wm:Nat),a.eval s= .slice base jj mb→mb<jj+n→(jj+n)*i.bytes≤1099511627776→PList w M os wD→os.all single=true→os.length=jj*i.size→
     (Builtin.firstCells i.size jj (.slice base jj mb)).run P w.drew= .ok wD.toArray w.drew→st.gens sp k<g→wm≤os.length→jr P B st a w β M o (.isl sp k g 0 (jj+n) i.size) [(sp,k,⟨g,.cells (os++xs) wm bx⟩)]:=by
    intro bx base jj mb wD os sp k g wm es jm kZ ho1 ho2 ho3 hfc hg FT
    have hr:=FY (P:=P) (w:=w) (t:=t) (u:=u) (ty:=o.type) (base:=base) (jj:=jj) (mb:=mb) (cx:=a.eval x) (n:=n) (wD:=wD) (news:=news) ht hu SM hi hz (yZ w rfl).1 (yZ w.drew rfl).2 hfc jm kZ hby
    obtain⟨hd1,hd2⟩:=DJ h (w.drawn+1)
    have hol:wD.length=jj*i.size:=by rw[←PList.length _ _ ho1,ho3]
    have FL:=grownCap_ge w (jj+n) mb e
    have BO:(wD.toArray++news.toArray++Builtin.zeroCells z.cells (grownCap w (jj+n) mb e-(jj+n))).size=grownCap w (jj+n) mb e*i.size:=by
     rw[Array.size_append,Array.size_append,size_zeroCells]
     simp only[List.size_toArray,hol,FZ,←nL]
     rw[←Nat.add_mul,←Nat.add_mul];congr 1;omega
    have hlen:(os++xs).length=wD.length+news.length:=by simp[ho3,n3,hol,FZ]
    obtain⟨r1,r2⟩:=TF (bx:=bx) hd1 e (wD.toArray++news.toArray++Builtin.zeroCells z.cells (grownCap w (jj+n) mb e-(jj+n))) (os++xs) wm sp k g hg (by
     have:(wD.toArray++news.toArray++Builtin.zeroCells z.cells (grownCap w (jj+n) mb e-(jj+n))).toList.take (os++xs).length=wD++news:=by
      rw[hlen]
      simp only[Array.toList_append,List.toList_toArray]
      rw[List.take_append_of_le_length (by simp)]
      exact List.take_of_length_le (by simp)
     rw[this]
     exact PList.mono hd2.keep _ _ (PList.append ho1 n1)) (by simp only[List.all_append,Bool.and_eq_true];exact⟨ho2,n2⟩) (by
     rw[BO,hlen,hol,FZ,←Nat.add_mul];exact Nat.mul_le_mul_right _ FL) (by simp;omega)
    refine⟨_,_,_,_,_,exec _ _ (by rw[es];exact hr),.inl rfl,r1,hd2.trans r2 (Nat.le_refl _), ?_, ?_⟩
    ·show w.heap.size≤(w.heap.push _).size;simp
    ·simp only[fk]
     refine⟨by simp[St.ups,jH],grownCap w (jj+n) mb e, ?_,FL, ?_⟩
     ·rw[gX]
     ·rw[gX,BO];exact Nat.le_of_eq (Nat.zero_add _)
   split at hq
   ·rename_i es
    rw[es]at vs;simp only[fk]at vs
    split at hq
    ·rename_i kZ
     unfold roomy at kZ
     obtain⟨sp,k,g,rfl,rfl,hg,_⟩:=og hq
     have:=grow nm none 0 0 [] [] sp k g 0 vs (by omega) (by simpa using kZ) (by simp[PList]) rfl (by simp) (by simp[Builtin.firstCells]) hg (Nat.zero_le _)
     simpa using this
    ·simp[Q.run]at hq
   ·rename_i cs len es
    rw[es]at vs;simp only[fk,PRel]at vs
    obtain⟨blk,off,cap,iy,e1,e2,e3,e5,e4⟩:=vs
    have:=e3 trivial;subst this
    split at hq
    ·rename_i kZ
     simp at kZ
     unfold roomy at kZ
     obtain⟨sp,k,g,rfl,rfl,hg,_⟩:=og hq
     obtain⟨ol,f1,f2,f3,f4⟩:=fI.load (P:=P) e4
     refine grow false _ _ _ ol cs sp k g 0 e1 (by omega) kZ.2 f3 f4 kZ.1 ?_ hg (Nat.zero_le _)
     have:=run_loadCells_list (P:=P) w.drew ⟨blk,off,iy⟩ ol (fun j u hu=>by
      rcases e5 with e5|e5
      ·subst e5
       rw[kC];have:=f2 j u hu;unfold World.cell? at this ⊢; exact this
      ·exfalso
       have h0:ol= []:=List.length_eq_zero_iff.1 (by rw[f1,kZ.1,e5,Nat.zero_mul])
       subst h0;simp at hu)
     rw[f1,kZ.1]at this
     simp[Builtin.firstCells,this]
    ·simp[Q.run]at hq
   ·rename_i sp k g off len sz es
    rw[es]at vs;simp only[fk]at vs
    obtain⟨q1,cap,e1,e2,e3⟩:=vs
    split at hq
    ·rename_i kZ
     simp at kZ
     unfold roomy at kZ
     obtain⟨⟨rfl,rfl⟩,kZ⟩:=kZ
     simp only[Q.run]at hq
     split at hq
     ·rename_i hg
      have An:=h.obj sp k
      generalize he:st.get sp k=en at*
      obtain⟨ge,ob⟩:=en
      dsimp only at hg;subst hg
      cases ob with
      |none=>simp[Q.run]at hq
      |map _ _ _=>simp[Q.run]at hq
      |cells cs wm bx=>
       cases bx with
       |true=>simp[Q.run]at hq
       |false=>
        dsimp only at hq
        split at hq
        ·rename_i hlen
         simp[Q.run]at hq;obtain⟨rfl,rfl⟩:=hq
         unfold jf at An
         obtain⟨cc,el,fz,h1,h2,h3,h4,h5,h6,h7,h8⟩:=An
         dsimp only at h1 h2 h3 h4 h5 h6
         subst h4
         have J9:st.gens sp k=ge:=by show(st.get sp k).g=ge;rw[he]
         by_cases ZV:len+n≤cap
         ·have agK:(len+n)*i.size≤cap*i.size:=Nat.mul_le_mul_right _ ZV
          rw[Nat.add_mul]at agK
          have ZS:=fo.one (PList.toV β st.gens _ _ n1) n2
          have lX:=run_storeCells_at P (β sp k ge).blk ((β sp k ge).off+len*i.size) el news 0 cc w h1 (by omega) ZS
          rw[tc h1]at lX
          simp only[Nat.add_zero]at lX
          rw[H7 _ _ _ (by simp;omega)]at lX
          have hr:=yC (P:=P) (w:=w) (t:=t) (u:=u) (ty:=o.type) (base:=some ⟨(β sp k ge).blk,(β sp k ge).off+0,none⟩) (jj:=len) (mb:=cap) (cx:=a.eval x) (n:=n) (news:=news) ht hu SM hi (yZ w rfl).1 (yZ w rfl).2 ZV (by
           dsimp only;rw[kC];simpa using lX)
          have key:=Av h he (ge+1) (Nat.le_succ _) h1 (len*i.size) news (cs++xs) (by omega) (by omega) (by simp) (by simp[n3];omega) (by simp only[List.all_append,Bool.and_eq_true];exact⟨h7,n2⟩) (by
           show PList w M _ _
           have h5:PList w M cs _:=h5
           have:(splice (cc.toList.drop (β sp k ge).off) (len*i.size) news).take (cs++xs).length=(cc.toList.drop (β sp k ge).off).take cs.length++news:=by
            rw[←H7 _ _ _ (by simp;omega),hlen,List.take_append_of_le_length (by simp[n3,FZ];omega)]
            exact List.take_of_length_le (by simp[n3,FZ];omega)
           rw[this]
           exact PList.append h5 n1)
          refine⟨_,_,_,_,_,exec _ _ (by rw[e1];exact hr),.inl rfl,key.1,key.2,by rw[jL];exact Nat.le_refl _, ?_⟩
          simp only[fk]
          refine⟨by simp[St.ups,jH],cap,by rw[gX],ZV,by rw[gX];exact e3⟩
         ·have J1:PList w M cs ((cc.toList.drop (β sp k ge).off).take cs.length):=h5
          refine grow false _ len cap ((cc.toList.drop (β sp k ge).off).take cs.length) cs sp k (ge+1) wm e1 (by omega) kZ J1 h7 hlen.symm ?_ (by rw[J9];omega) h8
          have L1:=PList.length _ _ J1
          have:=run_loadCells_list (P:=P) w.drew ⟨(β sp k ge).blk,(β sp k ge).off+0,none⟩ ((cc.toList.drop (β sp k ge).off).take cs.length) (fun j u hu=>by
           rw[kC]
           rw[List.getElem?_take]at hu
           split at hu
           ·rw[List.getElem?_drop]at hu
            unfold World.cell?
            show(match w.heap[(β sp k ge).blk]? with|some (.cells c _ _)=>if(none:Option Nat).isSome then none else c[(β sp k ge).off+0+j]? |_=>none)=some u
            rw[h1];simpa using hu
           ·cases hu)
          rw[←L1]at this
          simp only[Builtin.firstCells]
          rw[hlen]
          exact this
        ·simp[Q.run]at hq
     ·simp[Q.run]at hq
    ·simp[Q.run]at hq
   ·simp[Q.run]at hq
end
end Go.Ev
namespace Go.Ev
open Go
section
variable{P:Program}{B:jR}{st:St}{a:Act}{w:World}{β:fS}{M:fE}{o:Oper}{v:T}{ups:List Up}
theorem ql{x:Option T}{h:Sp→Nat→fg}{nx:Nat}(hq:(Ev.val x).run h nx=some (.val v ups)):x=some v∧ups= []:=by
 cases x with
 |none=>simp[Ev.val,Q.run]at hq
 |some y=>simp[Ev.val,Q.run]at hq;obtain⟨rfl,rfl⟩:=hq;exact⟨rfl,rfl⟩
theorem TG(hZ:py β st.gens w M st.rho a.eval)(h:fY B st w β M){c:Call}(ho:o.op= .call c){sh:Nat}{F0:kG}{d:Nat}(hc:rJ P sh c=some F0)
  (hq:(gA d st.rho F0).run st.get st.sh.length=some (.val v ups)):jr P B st a w β M o v ups:=by
 unfold rJ at hc
 split at hc
 ·simp only[Option.map_eq_some_iff]at hc
  obtain⟨as,_,rfl⟩:=hc
  simp[gA,Q.run]at hq
 ·split at hc
  ·simp at hc;subst hc
   simp[gA,Q.run]at hq
  ·cases hc
 ·rename_i hb
  split at hc
  ·rename_i t x h1 h2
   split at hc
   ·rename_i y h3 h4;simp at hc;subst hc;exact Tv hZ h ho hb h1 h2 h3 h4 hq
   ·rename_i e y h3 h4;simp at hc;subst hc;exact Tw hZ h ho hb h1 h2 h3 h4 hq
   ·rename_i e e' y h3 h4;simp at hc;subst hc;exact Tx hZ h ho hb h1 h2 h3 h4 hq
   ·rename_i n e y h3 h4;simp at hc;subst hc
    simp[gA,Q.run]at hq;obtain⟨rfl,rfl⟩:=hq
    exact Ty h ho hb h1 h2 h3
   ·cases hc
  ·cases hc
 ·rename_i hb
  split at hc
  ·rename_i t u x y h1 h2
   split at hc
   ·rename_i e ud x' y' h3 h4 h5 h6
    have fin: ∀(SM:ud= .string∨ ∃e',ud= .slice e'),(match P.info? e with
     |some i=>(match i.zero with
      |some z=>if i.size=z.cells.size&&i.size != 0&&i.bytes != 0 then some (kG.app i.size i.bytes x' y' (sh==1) (sh==2))else none
      |none=>none)
     |none=>none)=some F0→jr P B st a w β M o v ups:=by
     intro SM hc
     split at hc
     ·rename_i i hi
      split at hc
      ·rename_i z hz
       split at hc
       ·rename_i j6
        simp at j6 hc;subst hc
        exact ZU hZ h ho hb h1 h2 h3 h4 SM hi hz j6.1.1 j6.1.2 j6.2 h5 h6 hq
       ·cases hc
      ·cases hc
     ·cases hc
    split at hc
    ·rename_i e';exact fin (.inr ⟨e',rfl⟩) hc
    ·exact fin (.inl rfl) hc
    ·cases hc
   ·cases hc
  ·cases hc
 ·rename_i hb
  simp only[Option.map_eq_some_iff]at hc
  obtain⟨as,h1,rfl⟩:=hc
  exact XY (isMax:=false) hZ h ho hb h1 hq
 ·rename_i hb
  simp only[Option.map_eq_some_iff]at hc
  obtain⟨as,h1,rfl⟩:=hc
  exact XY (isMax:=true) hZ h ho hb h1 hq
 ·cases hc
theorem agL(hZ:py β st.gens w M st.rho a.eval)(h:fY B st w β M){sh:Nat}{F0:kG}{d:Nat}(hc:ij P sh o.op=some F0)
  (hq:(gA d st.rho F0).run st.get st.sh.length=some (.val v ups)):jr P B st a w β M o v ups:=by
 cases lY:o.op with
 |move x=>
  rw[lY]at hc;simp only[ij,Option.map_eq_some_iff]at hc
  obtain⟨y,h1,rfl⟩:=hc
  simp[gA,Q.run]at hq;obtain⟨rfl,rfl⟩:=hq
  exact XX hZ h (.inl lY) h1
 |assign x=>
  rw[lY]at hc;simp only[ij,Option.map_eq_some_iff]at hc
  obtain⟨y,h1,rfl⟩:=hc
  simp[gA,Q.run]at hq;obtain⟨rfl,rfl⟩:=hq
  exact XX hZ h (.inr lY) h1
 |pick c x y=>
  rw[lY]at hc;simp only[ij]at hc
  split at hc
  ·rename_i c' x' y' h1 h2 h3
   simp at hc;subst hc
   simp only[gA]at hq
   split at hq <;> simp[Q.run]at hq
   ·rename_i e;obtain⟨rfl,rfl⟩:=hq;exact J0 (bb:=true) hZ h lY h1 h2 h3 e
   ·rename_i e;obtain⟨rfl,rfl⟩:=hq;exact J0 (bb:=false) hZ h lY h1 h2 h3 e
  ·cases hc
 |alloc t=>
  rw[lY]at hc;simp only[ij]at hc
  split at hc
  ·rename_i z hz
   split at hc
   ·rename_i hn;simp at hc;subst hc;exact O2 h lY hz hn hq
   ·cases hc
  ·cases hc
 |box t x=>
  rw[lY]at hc;simp only[ij,Option.map_eq_some_iff]at hc
  obtain⟨y,h1,rfl⟩:=hc
  exact ZM hZ h lY h1 hq
 |build t ps=>
  rw[lY]at hc;simp only[ij]at hc
  split at hc
  ·rename_i z fs hz hu
   split at hc
   ·rename_i lS hp
    split at hc
    ·rename_i hn
     simp only[Option.map_eq_some_iff]at hc
     obtain⟨r,h1,rfl⟩:=hc
     exact FN hZ h lY hz (.inl ⟨fs,lS,hu,hp,h1⟩) hn hq
    ·cases hc
   ·cases hc
  ·rename_i z n e hz hu
   split at hc
   ·rename_i sz hs
    split at hc
    ·rename_i hn
     simp only[Option.map_eq_some_iff]at hc
     obtain⟨r,h1,rfl⟩:=hc
     exact FN hZ h lY hz (.inr ⟨n,e,sz,hu,hs,h1⟩) hn hq
    ·cases hc
   ·cases hc
  ·cases hc
 |buildSlice t len ps=>
  rw[lY]at hc;simp only[ij]at hc
  split at hc
  ·rename_i e hu
   split at hc
   ·rename_i z n r hz hn hr
    split at hc
    ·rename_i j6
     simp at j6 hc;subst hc
     exact ZQ hZ h lY hu hz hn hr j6.1.1.1 j6.1.1.2 j6.1.2 j6.2 hq
    ·cases hc
   ·cases hc
  ·cases hc
 |load t x=>
  rw[lY]at hc;simp only[ij]at hc
  split at hc
  ·rename_i y n ag h1 h2 h3;simp at hc;subst hc;exact agu hZ h lY h1 h2 h3 hq
  ·cases hc
 |store t x y=>
  rw[lY]at hc;simp only[ij]at hc
  split at hc
  ·rename_i y n ag h1 h2 h3;simp at hc;subst hc;exact agF hZ h lY h1 h2 h3 hq
  ·cases hc
 |nilCheck x=>
  rw[lY]at hc;simp only[ij,Option.map_eq_some_iff]at hc
  obtain⟨y,h1,rfl⟩:=hc
  exact Zv hZ h lY h1 hq
 |binOp op t x y t'=>
  rw[lY]at hc;simp only[ij]at hc
  split at hc
  ·rename_i x' y' h1 h2
   split at hc
   ·rename_i hk
    simp at hc;subst hc
    obtain⟨e1,rfl⟩:=ql hq
    simp only[Option.map_eq_some_iff]at e1
    obtain⟨r,e2,rfl⟩:=e1
    exact J5 (neg:=false) hZ h lY h1 h2 (by have:=tG hk;simp[Af,this]) (by simp) e2
   ·rename_i hk
    simp at hc;subst hc
    obtain⟨e1,rfl⟩:=ql hq
    simp only[Option.map_eq_some_iff]at e1
    obtain⟨r,e2,rfl⟩:=e1
    exact J5 (neg:=true) hZ h lY h1 h2 (by have:=tG hk;simp[Af,this]) (by simp) e2
   ·simp at hc;subst hc
    obtain⟨e1,rfl⟩:=ql hq
    exact Zw hZ h lY h1 h2 e1
   ·rename_i hk
    simp only[Option.map_eq_some_iff]at hc
    obtain⟨k,h3,rfl⟩:=hc
    obtain⟨e1,rfl⟩:=ql hq
    simp only[Option.map_eq_some_iff]at e1
    obtain⟨r,e2,rfl⟩:=e1
    refine J5 (neg:=false) hZ h lY h1 h2 h3 ?_ e2
    have BO:=oJ h3
    refine⟨fun e=> ?_,fun e=> ?_⟩ <;> subst e <;> simp only at BO <;> rw[BO]at hk <;> simp at hk
   ·rename_i hk
    simp only[Option.map_eq_some_iff]at hc
    obtain⟨k,h3,rfl⟩:=hc
    obtain⟨e1,rfl⟩:=ql hq
    simp only[Option.map_eq_some_iff]at e1
    obtain⟨r,e2,rfl⟩:=e1
    refine J5 (neg:=true) hZ h lY h1 h2 h3 ?_ e2
    have BO:=oJ h3
    refine⟨fun e=> ?_,fun e=> ?_⟩ <;> subst e <;> simp only at BO <;> rw[BO]at hk <;> simp at hk
   ·cases hc
  ·cases hc
 |unOp op t x=>
  rw[lY]at hc;simp only[ij,Option.map_eq_some_iff]at hc
  obtain⟨y,h1,rfl⟩:=hc
  obtain⟨e1,rfl⟩:=ql hq
  exact agt hZ h lY h1 e1
 |convert s t x=>
  rw[lY]at hc;simp only[ij]at hc
  split at hc
  ·rename_i ks k y h1 h2 h3
   simp at hc;subst hc
   simp only[gA]at hq
   split at hq
   ·rename_i k' n e
    simp[Q.run]at hq;obtain⟨rfl,rfl⟩:=hq
    exact Zy hZ h lY h3 ⟨ks,h1⟩ h2 e
   ·simp[Q.run]at hq
  ·cases hc
 |makeFunc fn first cap=>
  rw[lY]at hc
  cases fn <;> simp only[ij]at hc <;> try (cases hc;done)
  split at hc
  ·rename_i f as cs h1 h2
   simp at hc;subst hc
   simp[gA,Q.run]at hq;obtain⟨rfl,rfl⟩:=hq
   exact Tq hZ h lY h1 h2
  ·cases hc
 |makeMap t r=>
  rw[lY]at hc
  cases r <;> simp only[ij]at hc
  ·simp at hc;subst hc;exact O3 h lY hq
  ·cases hc
 |makeSlice t l c=>
  rw[lY]at hc;simp only[ij]at hc
  split at hc
  ·rename_i e hu
   split at hc
   ·rename_i i z y h1 h2 h3
    split at hc
    ·rename_i j6
     simp at j6 hc;subst hc
     exact Tz hZ h lY hu h1 h2 h3 j6.1.1.2 j6.1.1.1 j6.1.2 j6.2 hq
    ·cases hc
   ·cases hc
  ·cases hc
 |slice t x l hh m=>
  rw[lY]at hc;simp only[ij]at hc
  split at hc
  ·rename_i y l' h' h1 h2 h3 h4 h5
   simp at hc;subst hc
   have hm:m=none:=by cases m <;> simp[ti]at h5 ⊢
   subst hm
   exact ZE hZ h lY h2 h3 h4 h1 hq
  ·rename_i e y l' h' m' h1 h2 h3 h4 h5
   split at hc
   ·rename_i n hn
    split at hc
    ·rename_i j6
     simp at j6 hc;subst hc
     refine ZF hZ h lY h2 h3 h4 h5 h1 hn j6.1 ?_ hq
     intro hm
     rcases j6.2 with e1|e1
     ·cases m with
      |none=>simp at hm
      |some mm=>simp only[ti,Option.map_eq_some_iff]at h5;obtain⟨_,_,rfl⟩:=h5;simp at e1
     ·cases hh with
      |none=>simp[ti]at h4;subst h4;simp at e1
      |some _=>rfl
    ·cases hc
   ·cases hc
  ·cases hc
 |fieldAddr s x f=>
  rw[lY]at hc;simp only[ij]at hc
  split at hc
  ·rename_i fs y h1 h2
   split at hc
   ·rename_i fd h3
    split at hc
    ·rename_i n h4
     split at hc
     ·rename_i h5;simp at h5 hc;subst hc;exact agv hZ h lY h2 h1 h3 h4 h5 hq
     ·cases hc
    ·cases hc
   ·cases hc
  ·cases hc
 |field s x f=>
  rw[lY]at hc;simp only[ij]at hc
  split at hc
  ·rename_i fs y h1 h2
   split at hc
   ·rename_i fd h3
    split at hc
    ·rename_i n ag h4 h5
     simp at hc;subst hc;exact ZA hZ h lY h2 h1 h3 h4 h5 hq
    ·cases hc
   ·cases hc
  ·cases hc
 |indexAddr t x j=>
  rw[lY]at hc;simp only[ij]at hc
  split at hc
  ·rename_i e y j' h1 h2 h3
   split at hc
   ·rename_i n hn
    split at hc
    ·simp at hc;subst hc;exact agw hZ h lY h2 h3 h1 hn hq
    ·cases hc
   ·cases hc
  ·rename_i len e y j' h1 h2 h3
   split at hc
   ·rename_i n hn
    split at hc
    ·simp at hc;subst hc;exact ZD hZ h lY h2 h3 h1 hn hq
    ·cases hc
   ·cases hc
  ·cases hc
 |index t x j=>
  rw[lY]at hc;simp only[ij]at hc
  split at hc
  ·rename_i y j' h1 h2 h3;simp at hc;subst hc;exact ZC hZ h lY h2 h3 h1 hq
  ·rename_i len e y j' h1 h2 h3
   split at hc
   ·rename_i n ag hn ha;simp at hc;subst hc;exact ZB hZ h lY h2 h3 h1 hn ha hq
   ·cases hc
  ·cases hc
 |lookup t m k ok=>
  rw[lY]at hc;simp only[ij]at hc
  split at hc
  ·rename_i kt et m' k' h1 h2 h3
   split at hc
   ·rename_i ek z h4 h5;simp at hc;subst hc;exact agH hZ h lY h2 h3 h1 h4 h5 hq
   ·cases hc
  ·cases hc
 |mapUpdate t m k x=>
  rw[lY]at hc;simp only[ij]at hc
  split at hc
  ·rename_i kt et m' k' x' h1 h2 h3 h4
   simp only[Option.map_eq_some_iff]at hc
   obtain⟨ek,h5,rfl⟩:=hc
   exact agI hZ h lY h2 h3 h4 h1 h5 hq
  ·cases hc
 |extract x j=>
  rw[lY]at hc;simp only[ij,Option.map_eq_some_iff]at hc
  obtain⟨y,h1,rfl⟩:=hc
  simp only[gA]at hq
  split at hq
  ·rename_i vs e
   obtain⟨e1,rfl⟩:=ql hq
   exact Zz hZ h lY h1 e e1
  ·simp[Q.run]at hq
 |call c=>rw[lY]at hc;simp only[ij]at hc;exact TG hZ h lY hc hq
 |_=>rw[lY]at hc;simp[ij]at hc
end
end Go.Ev
