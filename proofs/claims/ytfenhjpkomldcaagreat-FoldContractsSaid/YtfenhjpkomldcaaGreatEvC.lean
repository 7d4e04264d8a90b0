/- A tree evaluator over the model, proved against it (part C): where it answers, the call returns that answer. Conditions: none beyond its theorems' own. -/
import Derived.Test.YtfenhjpkomldcaaGreatEvB
import Derived.Laws.Tables
set_option linter.unusedSimpArgs false
set_option linter.unusedVariables false
namespace Go.Ev
open Go
theorem qv{P:Program}{t:TypeId}{z:T}(h:mc P t=some z): ∃i zv,P.info? t=some i∧i.zero=some zv∧uv zv=some z:=by
 unfold mc at h
 cases hi:P.info? t with
 |none=>simp[hi]at h
 |some i=>
  simp only[hi,Option.bind_some]at h
  cases hz:i.zero with
  |none=>simp[hz]at h
  |some zv=>simp only[hz,Option.bind_some]at h;exact⟨i,zv,rfl,hz,h⟩
theorem wW{P:Program}{t:TypeId}{z:T}(h:mc P t=some z)(w:World): ∃zv,(zeroValue t).run P w= .ok zv w∧ ∀w M,PRel w M z zv:=by
 obtain⟨i,zv,h1,h2,h3⟩:=qv h
 exact⟨zv,by simp[zeroValue,typeInfo,h1,h2],fun w M=>kC h3⟩
theorem mU{β:bj}{G:Sp→Nat→Nat}{w:World}{M:aM}{t:T}{cv:Value}(h:aw β G w M t cv)(hn:noTup t=true):aA β G w M (cellsOf t) cv.cells.toList∧(cellsOf t).all single=true:=by
 cases t
 case agg cs=>
  simp only[aw]at h
  obtain⟨a,rfl,h1,h2⟩:=h
  exact⟨h1,h2⟩
 case tup cs=>simp[noTup]at hn
 all_goals
  have h':=h
  simp only[aw,PRel]at h
  refine⟨?_,rfl⟩
  simp only[cellsOf,aA]
  refine⟨cv,[], ?_,h',rfl⟩
  first
   |(subst h;rfl)
   |(obtain⟨_,rfl,_⟩:=h;rfl)
   |(obtain⟨_,_,rfl,_⟩:=h;rfl)
   |(obtain⟨_,_,_,rfl,_⟩:=h;rfl)
   |(obtain⟨_,_,_,_,rfl,_⟩:=h;rfl)
   |(obtain⟨_,rfl⟩:=h;rfl)
theorem qw{w:World}{M:aM}{t:T}{cv:Value}(h:PRel w M t cv)(hn:noTup t=true):PList w M (cellsOf t) cv.cells.toList∧(cellsOf t).all single=true:=by
 cases t
 case agg cs=>
  simp only[PRel]at h
  obtain⟨a,rfl,h1,h2⟩:=h
  exact⟨h1,h2⟩
 case tup cs=>simp[noTup]at hn
 case isl=>simp only[PRel]at h
 case ptr=>simp only[PRel]at h
 case mp=>simp only[PRel]at h
 all_goals
  have h':=h
  simp only[PRel]at h
  refine⟨?_,rfl⟩
  simp only[cellsOf,PList]
  refine⟨cv,[], ?_,h',rfl⟩
  first
   |(subst h;rfl)
   |(obtain⟨_,rfl,_⟩:=h;rfl)
   |(obtain⟨_,_,rfl,_⟩:=h;rfl)
   |(obtain⟨_,_,_,rfl,_⟩:=h;rfl)
   |(obtain⟨_,_,_,_,rfl,_⟩:=h;rfl)
theorem dX{α:Type}: ∀(cs:List α) (off:Nat) (vs:List α),(splice cs off vs).length=cs.length
 |cs,0,[]=>by cases cs <;> simp[splice]
 | [],0,v::vs=>by simp[splice]
 |c::cs,0,v::vs=>by simp[splice,dX cs 0 vs]
 | [],off+1,vs=>by simp[splice]
 |c::cs,off+1,vs=>by simp[splice,dX cs off vs]
theorem gI{α:Type}: ∀(cs:List α) (off:Nat),splice cs off []=cs
 |cs,0=>by cases cs <;> simp[splice]
 | [],off+1=>by simp[splice]
 |c::cs,off+1=>by simp[splice,gI cs off]
theorem sF{α:Type}: ∀(cs:List α) (off:Nat) (v:α) (vs:List α),splice (cs.set off v) (off+1) vs=splice cs off (v::vs)
 | [],off,v,vs=>by cases off <;> simp[splice]
 |c::cs,0,v,vs=>by simp[splice]
 |c::cs,off+1,v,vs=>by simp[splice,sF cs off v vs]
theorem eE{α:Type}: ∀(cs:List α) (off:Nat) (vs:List α) (j:Nat),(splice cs off vs)[j]? =if off≤j∧j<off+vs.length∧j<cs.length then vs[j-off]? else cs[j]?
 |cs,0,[],j=>by rw[gI];simp
 | [],0,v::vs,j=>by simp[splice]
 |c::cs,0,v::vs,0=>by simp[splice]
 |c::cs,0,v::vs,j+1=>by simp[splice,eE cs 0 vs j]
 | [],off+1,vs,j=>by simp[splice]
 |c::cs,off+1,vs,0=>by simp[splice]
 |c::cs,off+1,vs,j+1=>by
  simp only[splice,List.getElem?_cons_succ,eE cs off vs j,List.length_cons]
  have e:j+1-(off+1)=j-off:=by omega
  rw[e]
  by_cases hc:off≤j∧j<off+vs.length∧j<cs.length
  ·rw[if_pos hc,if_pos (by omega)]
  ·rw[if_neg hc,if_neg (by omega)]
theorem aA.splice{β:bj}{G:Sp→Nat→Nat}{w:World}{M:aM}: ∀{cs:List T} {pV:List Value} {off:Nat} {vs:List T} {Cw:List Value},aA β G w M cs pV→aA β G w M vs Cw→aA β G w M (splice cs off vs) (splice pV off Cw)
 |cs,pV,0,[],Cw,h1,h2=>by simp only[aA]at h2;subst h2;rw[gI,gI];exact h1
 | [],pV,0,v::vs,Cw,h1,h2=>by simp only[aA]at h1;subst h1;obtain⟨u,us,rfl,_⟩:=h2;simp[Ev.splice,aA]
 |c::cs,pV,0,v::vs,Cw,h1,h2=>by
  simp only[aA]at h1 h2
  obtain⟨a,as,rfl,p1,p2⟩:=h1
  obtain⟨u,us,rfl,q1,q2⟩:=h2
  simp only[Ev.splice,aA]
  exact⟨u,_,rfl,q1,aA.splice p2 q2⟩
 | [],pV,off+1,vs,Cw,h1,h2=>by simp only[aA]at h1;subst h1;simp[Ev.splice,aA]
 |c::cs,pV,off+1,vs,Cw,h1,h2=>by
  simp only[aA]at h1
  obtain⟨a,as,rfl,p1,p2⟩:=h1
  simp only[Ev.splice,aA]
  exact⟨a,_,rfl,p1,aA.splice p2 h2⟩
theorem PList.splice{w:World}{M:aM}: ∀{cs:List T} {pV:List Value} {off:Nat} {vs:List T} {Cw:List Value},PList w M cs pV→PList w M vs Cw→PList w M (splice cs off vs) (splice pV off Cw)
 |cs,pV,0,[],Cw,h1,h2=>by simp only[PList]at h2;subst h2;rw[gI,gI];exact h1
 | [],pV,0,v::vs,Cw,h1,h2=>by simp only[PList]at h1;subst h1;obtain⟨u,us,rfl,_⟩:=h2;simp[Ev.splice,PList]
 |c::cs,pV,0,v::vs,Cw,h1,h2=>by
  simp only[PList]at h1 h2
  obtain⟨a,as,rfl,p1,p2⟩:=h1
  obtain⟨u,us,rfl,q1,q2⟩:=h2
  simp only[Ev.splice,PList]
  exact⟨u,_,rfl,q1,PList.splice p2 q2⟩
 | [],pV,off+1,vs,Cw,h1,h2=>by simp only[PList]at h1;subst h1;simp[Ev.splice,PList]
 |c::cs,pV,off+1,vs,Cw,h1,h2=>by
  simp only[PList]at h1
  obtain⟨a,as,rfl,p1,p2⟩:=h1
  simp only[Ev.splice,PList]
  exact⟨a,_,rfl,p1,PList.splice p2 h2⟩
theorem pH{p:T→Bool}{cs vs:List T}{off:Nat}(h1:cs.all p=true)(h2:vs.all p=true):(splice cs off vs).all p=true:=by
 rw[List.all_eq_true]at*
 intro x hx
 obtain⟨j,hj⟩:=List.getElem?_of_mem hx
 rw[eE]at hj
 split at hj
 ·exact h2 x (List.mem_of_getElem? hj)
 ·exact h1 x (List.mem_of_getElem? hj)
theorem rL(off:Nat): ∀(vs:List Value) (s:Nat) (cells:Array Value),((vs.zipIdx s).foldl (fun(cs:Array Value) (p:Value×Nat)=>cs.setIfInBounds (off+p.2) p.1) cells).toList=splice cells.toList (off+s) vs
 | [],s,cells=>by simp[gI]
 |v::vs,s,cells=>by
  simp only[List.zipIdx_cons,List.foldl_cons]
  rw[rL off vs (s+1),Array.toList_setIfInBounds,←Nat.add_assoc,sF]
theorem Ek{β:bj}{G:Sp→Nat→Nat}{w:World}{M:aM}{place:Nat→Option (Nat×Nat)}: ∀(parts:List (Nat×Value)) (ps:List (Nat×List T)) (zs:List T) (zc:Array Value) (rs:List T),
  aA β G w M zs zc.toList→zs.all single=true→parts.length=ps.length→(∀(j i:Nat) (cv:Value) (off:Nat) (ts:List T),parts[j]? =some (i,cv)→ps[j]? =some (off,ts)→place i=some (off,ts.length)∧aA β G w M ts cv.cells.toList∧ts.all single=true)→
  aH zs ps=some rs→ ∃rc,Instr.fill place zc parts=some rc∧aA β G w M rs rc.toList∧rs.all single=true
 | [],ps,zs,zc,rs,hz,hs,hlen,hp,hf=>by
   cases ps with
   |nil=>simp[aH]at hf;subst hf;exact⟨zc,by simp[Instr.fill],hz,hs⟩
   |cons p ps=>simp at hlen
 |(i,cv)::parts,ps,zs,zc,rs,hz,hs,hlen,hp,hf=>by
  cases ps with
  |nil=>simp at hlen
  |cons p ps=>
   obtain⟨off,ts⟩:=p
   simp only[aH]at hf
   split at hf
   ·rename_i hle
    obtain⟨p1,p2,p3⟩:=hp 0 i cv off ts rfl rfl
    have qp:=aA.length _ _ p2
    have zA:=aA.length _ _ hz
    have oI:cv.cells.size=ts.length:=by rw[qp];simp
    have Rc:zc.size=zs.length:=by rw[zA];simp
    have hc: ¬((cv.cells.size≠ts.length||off+cv.cells.size>zc.size)=true):=by
     rw[oI,Rc];simp;omega
    have e:(cv.cells.zipIdx.foldl (fun(cs:Array Value) (p:Value×Nat)=>cs.setIfInBounds (off+p.2) p.1) zc).toList=splice zc.toList off cv.cells.toList:=by
     have:=rL off cv.cells.toList 0 zc
     rw[←Array.foldl_toList,Array.toList_zipIdx];simpa using this
    obtain⟨rc,r1,r2,r3⟩:=Ek parts ps (splice zs off ts) (cv.cells.zipIdx.foldl (fun(cs:Array Value) (p:Value×Nat)=>cs.setIfInBounds (off+p.2) p.1) zc) rs
     (by rw[e];exact aA.splice hz p2) (pH hs p3) (by simpa using hlen) (fun j i cv off ts a b=>hp (j+1) i cv off ts (by simpa using a) (by simpa using b)) hf
    refine⟨rc, ?_,r2,r3⟩
    simp only[Instr.fill,p1]
    rw[if_neg hc]
    exact r1
   ·cases hf
section
variable{P:Program}{B:eu}{st:St}{a:Act}{w:World}{β:bj}{M:aM}{o:Oper}{v:T}{ups:List Up}
theorem qx{fV:List (Nat×Nat)}: ∀{ps:List (Nat×Operand)} {r:List (Nat×Nat×bq)},placesOf fV ps=some r→ps.length=r.length∧ ∀(j i:Nat) (x:Operand) (off n:Nat) (y:bq),ps[j]? =some (i,x)→r[j]? =some (off,n,y)→fV[i]? =some (off,n)∧dY x=some y
 | [],r,h=>by simp[placesOf]at h;subst h;simp
 |(i0,x0)::ps,r,h=>by
  simp only[placesOf]at h
  split at h
  ·rename_i p y r' h1 h2 h3
   simp at h;subst h
   obtain⟨a1,a2⟩:=qx h3
   refine⟨by simp[a1],fun j i x off n y' b1 b2=> ?_⟩
   cases j with
   |zero=>simp at b1 b2;obtain⟨rfl,rfl⟩:=b1;obtain⟨rfl,rfl,rfl⟩:=b2;exact⟨h1,h2⟩
   |succ j=>exact a2 j i x off n y' (by simpa using b1) (by simpa using b2)
  ·cases h
theorem pv{sz:Nat}: ∀{ps:List (Nat×Operand)} {r:List (Nat×Nat×bq)},j6 sz ps=some r→ps.length=r.length∧ ∀(j i:Nat) (x:Operand) (off n:Nat) (y:bq),ps[j]? =some (i,x)→r[j]? =some (off,n,y)→(off=i*sz∧n=sz)∧dY x=some y
 | [],r,h=>by simp[j6]at h;subst h;simp
 |(i0,x0)::ps,r,h=>by
  simp only[j6]at h
  split at h
  ·rename_i y r' h2 h3
   simp at h;subst h
   obtain⟨a1,a2⟩:=pv h3
   refine⟨by simp[a1],fun j i x off n y' b1 b2=> ?_⟩
   cases j with
   |zero=>simp at b1 b2;obtain⟨rfl,rfl⟩:=b1;obtain⟨rfl,rfl,rfl⟩:=b2;exact⟨⟨rfl,rfl⟩,h2⟩
   |succ j=>exact a2 j i x off n y' (by simpa using b1) (by simpa using b2)
  ·cases h
variable(cI:jS β st.gens w M st.rho a.eval)(h:bz B st w β M)
include cI h
theorem Aq{d nx:Nat}{t:TypeId}{ps:Array (Nat×Operand)}{z:T}{r:List (Nat×Nat×bq)}(ho:o.op= .build t ps)(hz:mc P t=some z)
  (hpl:(∃fs fV,P.underlying t=some (.struct fs)∧fs.toList.mapM (fun f=>(P.info? f.type).map fun i=>(f.offset,i.size))=some fV∧placesOf fV ps.toList=some r)∨(∃n e sz,P.underlying t=some (.array n e)∧dS P e=some sz∧j6 sz ps.toList=some r))
  (SN:noTup z=true) (hq:(bT d st.rho (.build (cellsOf z) r)).run st.get nx=some (.val v ups)):dG P B st a w β M o v ups:=by
 obtain⟨i,zv,z1,z2,z3⟩:=qv hz
 have ach:aw β st.gens w M z zv:=PRel.toV _ _ _ _ (kC z3)
 obtain⟨zc1,zc2⟩:=mU ach SN
 simp only[bT]at hq
 split at hq
 ·rename_i bl
  cases hf:aH (cellsOf z) (r.map fun p=>(p.1,cellsOf (st.rho p.2.2)))with
  |none=>simp[hf,Ev.val,Q.run]at hq
  |some rs=>
   simp[hf,Ev.val,Q.run]at hq;obtain⟨rfl,rfl⟩:=hq
   have parts: ∃place:Nat→Option (Nat×Nat),(∀rc,Instr.fill place zv.cells (ps.toList.map fun p=>(p.1,a.eval p.2))=some rc→P.built t (ps.map fun(i,x)=>(i,a.eval x)).toList=some rc)∧ps.toList.length=r.length∧
     ∀(j i:Nat) (x:Operand) (off n:Nat) (y:bq),ps.toList[j]? =some (i,x)→r[j]? =some (off,n,y)→place i=some (off,n)∧dY x=some y:=by
    rcases hpl with⟨fs,fV,u1,u2,u3⟩|⟨n,e,sz,u1,u2,u3⟩
    ·obtain⟨g1,g2⟩:=qx u3
     refine⟨fun i=>fV[i]?,fun rc hrc=> ?_,g1,g2⟩
     simp only[Program.built,z1,z2,u1,u2,Array.toList_map]
     have:(fun x:Nat=>fV.toArray[x]?)=fun i=>fV[i]? :=by funext i;simp
     rw[this];exact hrc
    ·obtain⟨g1,g2⟩:=pv u3
     have: ∃ie,P.info? e=some ie∧ie.size=sz:=by
      unfold dS at u2
      cases he:P.info? e with
      |none=>simp[he]at u2
      |some ie=>simp[he]at u2;exact⟨ie,rfl,u2⟩
     obtain⟨ie,v1,v2⟩:=this
     refine⟨fun i=>some (i*ie.size,ie.size),fun rc hrc=> ?_,g1,fun j i x off n y b1 b2=> ?_⟩
     ·simp only[Program.built,z1,z2,u1,v1,Array.toList_map];exact hrc
     ·obtain⟨⟨rfl,rfl⟩,c⟩:=g2 j i x off n y b1 b2
      exact⟨by rw[v2],c⟩
   obtain⟨place,q1,q2,q3⟩:=parts
   obtain⟨rc,r1,r2,r3⟩:=Ek (place:=place) (ps.toList.map fun p=>(p.1,a.eval p.2)) _ (cellsOf z) zv.cells rs zc1 zc2 (by simp[q2]) (by
    intro j i cv off ts b1 b2
    rw[List.getElem?_map,Option.map_eq_some_iff]at b1 b2
    obtain⟨⟨i',x⟩,c1,c2⟩:=b1
    obtain⟨⟨acj,n,y⟩,c3,c4⟩:=b2
    simp at c2 c4
    obtain⟨rfl,rfl⟩:=c2
    obtain⟨rfl,rfl⟩:=c4
    obtain⟨e1,e2⟩:=q3 j i' x acj n y c1 c3
    have hv:=cI x y e2
    have IZ:=(List.all_eq_true.1 bl) _ (List.mem_of_getElem? c3)
    simp at IZ
    obtain⟨k1,k2⟩:=mU hv IZ.2
    exact⟨by rw[e1,IZ.1],k1,k2⟩) hf
   refine bk h (cv:= .agg rc) ?_ (by simp only[aw];exact⟨rc,rfl,r2,r3⟩)
   have:=run_build (P:=P) w t (ps.map fun(i,x)=>(i,a.eval x)) rc (q1 rc r1)
   simp[execOp,ho,this]
 ·simp[Q.run]at hq
end
end Go.Ev
namespace Go.Ev
open Go
theorem iQ{st:St}{d:Nat}{sh:Bool}{ob:Ob}{f:Sp→Nat→Nat→T}{v:T}{ups:List Up}(h:(kz d sh ob f).run st.get st.sh.length=some (.val v ups)):
  ∃sp k g,v=f sp k g∧ups= [(sp,k,⟨g,ob⟩)]∧st.gens sp k<g∧(sp= .S→sh=true):=by
 unfold kz at h
 split at h
 ·simp[Q.run]at h
  obtain⟨rfl,rfl⟩:=h
  refine⟨.S,st.sh.length,1,rfl,rfl, ?_,fun _=>by assumption⟩
  show(st.get .S st.sh.length).g<1
  simp[St.get,wT (Nat.le_refl _),jj]
 ·simp[Q.run]at h
  obtain⟨rfl,rfl⟩:=h
  exact⟨.L,d,_,rfl,rfl,Nat.lt_succ_self _,fun e=>by cases e⟩
theorem qy{α:Type}(z:List α): ∀n,(repl z n).length=n*z.length
 |0=>by simp[repl]
 |n+1=>by simp[repl,qy z n,Nat.add_mul];omega
theorem Ar{α:Type}(z:List α)(hz:z≠ []): ∀(n j:Nat),j<n*z.length→(repl z n)[j]? =z[j%z.length]?
 |0,j,h=>by simp at h
 |n+1,j,h=>by
  have I0:0<z.length:=List.length_pos_iff.2 hz
  simp only[repl]
  by_cases hj:j<z.length
  ·rw[List.getElem?_append_left hj,Nat.mod_eq_of_lt hj]
  ·rw[List.getElem?_append_right (by omega),Ar z hz n (j-z.length) (by rw[Nat.add_mul]at h;omega)]
   rw[←Nat.mod_eq_sub_mod (by omega)]
theorem uE(z:Array Value)(n:Nat)(hz:z.size≠0):((Array.range (n*z.size)).map (fun i=>z[i%z.size]!)).toList=repl z.toList n:=by
 apply List.ext_getElem?
 intro j
 have hz':z.toList≠ []:=by intro e;apply hz;have:=congrArg List.length e;simpa using this
 by_cases hj:j<n*z.size
 ·rw[Ar z.toList hz' n j (by simpa using hj)]
  have hm:j%z.size<z.size:=Nat.mod_lt _ (by omega)
  simp[hj,hm]
 ·have h1:(repl z.toList n)[j]? =none:=by rw[List.getElem?_eq_none];rw[qy];simp;omega
  rw[h1];simp;omega
theorem PList.repl{w:World}{M:aM}{z:List T}{zv:List Value}(h:PList w M z zv): ∀n,PList w M (Ev.repl z n) (Ev.repl zv n)
 |0=>by simp[Ev.repl,PList]
 |n+1=>by simp only[Ev.repl];exact PList.append h (PList.repl h n)
theorem uF{z:List T}(h:z.all single=true): ∀n,(repl z n).all single=true
 |0=>by simp[repl]
 |n+1=>by simp only[repl,List.all_append,Bool.and_eq_true];exact⟨h,uF h n⟩
theorem wi{P:Program}{w:World}{t e:TypeId}{i:TypeInfo}{zv:Value}{k:IntKind}{m:Int}(ht:P.underlying t=some (.slice e))(hi:P.info? e=some i)(hz:i.zero=some zv)(hm:0≤m)(I1:IntKind.i64.wrap m=m)
  (hb:(i.bytes:Int)*m≤281474976710656) (ff:m.toNat*i.bytes≤140737488355328):
  (Instr.makeSlice t (.int k m) (.int k m)).run P w= .ok (.slice (some ⟨w.heap.size,0,none⟩) m.toNat m.toNat) (w.alloc (.cells ((Array.range (m.toNat*i.size)).map (fun j=>zv.cells[j%zv.cells.size]!)) e)):=by
 have h1: ¬(m<0):=by omega
 have h2: ¬(281474976710656<(i.bytes:Int)*m):=by omega
 have h3: ¬(140737488355328<m.toNat*i.bytes):=by omega
 have h4: ¬(m.toNat*i.bytes>roomBytes):=by unfold roomBytes;omega
 simp only[Instr.makeSlice,Sem.run_bind,run_underlying ht,Result.andThen_ok,asInt,asIntOf,Sem.run_pure,typeInfo,run_program,hi,I1]
 simp only[h1,decide_false,Bool.false_or,Int.lt_irrefl,gt_iff_lt,Bool.or_false]
 rw[if_neg (by simp;omega)]
 simp only[Sem.run_bind,askRoom,if_neg h4,Sem.run_pure,Result.andThen_ok,sizeOf,typeInfo,run_program,hi]
 by_cases hn:m.toNat*i.size=0
 ·rw[if_pos hn,hn]
  have:Array.range 0= #[]:=rfl
  simp[newRow,this]
 ·rw[if_neg hn]
  simp[newRow,zeroValue,typeInfo,hi,hz]
section
variable{P:Program}{B:eu}{st:St}{a:Act}{w:World}{β:bj}{M:aM}{o:Oper}{v:T}{ups:List Up}
theorem rM(h:bz B st w β M)(el:TypeId)(c:Array Value)(cs:List T)(bx:Bool)(sp:Sp)(k g:Nat)(hg:st.gens sp k<g)
  (hl:jl sp bx β st.gens w M cs (c.toList.take cs.length)) (hs:cs.all single=true) (hle:cs.length≤c.size):
  bz B (st.up (sp,k,⟨g,.cells cs 0 bx⟩)) (w.alloc (.cells c el)) (gh β sp k g ⟨w.heap.size,0,c.size⟩) (fun b x=>M b x∨b=w.heap.size)∧
  Tr st w β M (st.up (sp,k,⟨g,.cells cs 0 bx⟩)) (w.alloc (.cells c el)) (gh β sp k g ⟨w.heap.size,0,c.size⟩) (fun b x=>M b x∨b=w.heap.size):=by
 have hb: ∀cQ k' g',g'≤st.gens cQ k'→gh β sp k g ⟨w.heap.size,0,c.size⟩ cQ k' g'=β cQ k' g':=by
  intro cQ k' g' wj
  refine qn _ _ _ _ _ ?_
  rintro⟨rfl,rfl,rfl⟩
  omega
 have hG: ∀cQ k',st.gens cQ k'≤(st.up (sp,k,⟨g,.cells cs 0 bx⟩)).gens cQ k':=by
  intro cQ k'
  rw[ef]
  split
  ·rename_i e;obtain⟨rfl,rfl⟩:=e;exact Nat.le_of_lt hg
  ·exact Nat.le_refl _
 refine IV h sp k g hg (.cells c el) c.size (.cells cs 0 bx) ?_
 unfold dO
 simp only[cD]
 refine⟨c,el,(0,0),by rw[heap_alloc,if_pos rfl],by omega,hle,rfl, ?_,fun j _ _=>Or.inr (by trivial),hs,Nat.zero_le _⟩
 simp only[List.drop_zero]
 exact jl.mono (mQ w M _) hb hG hl
theorem yf{o':Obj}{sp:Sp}{k g:Nat}{ob:Ob}{ext:Nat}{cv:Value}{v:T}(hr:(execOp a.eval o).run P w= .ok (.value cv) (w.alloc o'))
  (hn:bz B (st.up (sp,k,⟨g,ob⟩)) (w.alloc o') (gh β sp k g ⟨w.heap.size,0,ext⟩) (fun b x=>M b x∨b=w.heap.size)∧
    Tr st w β M (st.up (sp,k,⟨g,ob⟩)) (w.alloc o') (gh β sp k g ⟨w.heap.size,0,ext⟩) (fun b x=>M b x∨b=w.heap.size))
  (hv:aw (gh β sp k g ⟨w.heap.size,0,ext⟩) (st.up (sp,k,⟨g,ob⟩)).gens (w.alloc o') (fun b x=>M b x∨b=w.heap.size) v cv):dG P B st a w β M o v [(sp,k,⟨g,ob⟩)]:=
 ⟨_,cv,_,_,_,hr,.inl rfl,hn.1,hn.2,by show _≤(w.heap.push o').size;simp,hv⟩
theorem Tr.less{M':aM}(hs: ∀b x,M' b x→M b x):Tr st w β M st w β M':=⟨dc hs,fun _ _ _ _=>rfl,fun _ _=>Nat.le_refl _⟩
theorem dG.less{M':aM}(hs: ∀b x,M' b x→M b x)(h:dG P B st a w β M' o v ups):dG P B st a w β M o v ups:=by
 obtain⟨nx,cv,w',bB,M2,h1,h2,h3,h4,h5,h6⟩:=h
 exact⟨nx,cv,w',bB,M2,h1,h2,h3,(Tr.less hs).trans h4 (Nat.le_refl _),h5,h6⟩
theorem qz{l:List Value}{n:Nat}(h:n=l.length):l.take n=l:=by subst h;simp
variable(cI:jS β st.gens w M st.rho a.eval)(h:bz B st w β M)
include h
theorem I2{d:Nat}{sh:Bool}{t:TypeId}{z:T}(ho:o.op= .alloc t)(hz:mc P t=some z)(SN:noTup z=true)
  (hq:(bT d st.rho (.alloc (cellsOf z) sh)).run st.get st.sh.length=some (.val v ups)):dG P B st a w β M o v ups:=by
 simp only[bT]at hq
 obtain⟨sp,k,g,rfl,rfl,hg,WY⟩:=iQ hq
 obtain⟨zv,z1,z2⟩:=wW hz w
 obtain⟨c1,c2⟩:=qw (z2 w M) SN
 have hlen:=PList.length _ _ c1
 refine yf (cv:= .pointer (some ⟨w.heap.size,0,none⟩)) ?_ (rM h t zv.cells (cellsOf z) true sp k g hg (by rw[qz hlen];exact jl.ofP c1) c2 (by rw[hlen];simp)) ?_
 ·simp[execOp,ho,Instr.alloc,z1,newVar,newRow]
 ·simp[aw,cD,ef]
include cI
theorem SO{d:Nat}{sh:Bool}{t:TypeId}{x:Operand}{x':bq}(ho:o.op= .box t x)(hx:dY x=some x')
  (hq:(bT d st.rho (.box x' sh)).run st.get st.sh.length=some (.val v ups)):dG P B st a w β M o v ups:=by
 have vx:=cI x x' hx
 simp only[bT]at hq
 split at hq
 ·simp[Q.run]at hq
 ·rename_i SP
  simp at SP
  have fin: ∀(M':aM) (t':T),bz B st w β M'→noTup t'=true→ ∀sp k g,st.gens sp k<g→(match sp with| .L=>aw β st.gens w M' t' (a.eval x)| .S=>mS true β st.gens w M' t' (a.eval x))→dG P B st a w β M' o (.ptr sp k g 0) [(sp,k,⟨g,.cells (cellsOf t') 0 true⟩)]:=by
   intro M' t' h' SP sp k g hg ht
   have htV:aw β st.gens w M' t' (a.eval x):=by
    cases sp
    ·exact ht
    ·exact mS.toV ht
   obtain⟨c1,c2⟩:=mU htV SP
   have hlen:=aA.length _ _ c1
   refine yf (cv:= .pointer (some ⟨w.heap.size,0,none⟩)) ?_ (rM h' t (a.eval x).cells (cellsOf t') true sp k g hg (by
    rw[qz hlen]
    cases sp
    ·exact c1
    ·exact fun bB G' p q=>(mU (ht bB G' p q) SP).1) c2 (by rw[hlen];simp)) ?_
   ·simp[execOp,ho,Instr.box,newVar,newRow]
   ·simp[aw,cD,ef]
  split at hq
  ·simp only[Q.run_bind]at hq
   cases hz:(fz true aU (st.rho x')).run st.get st.sh.length with
   |none=>simp[hz]at hq
   |some p=>
    obtain⟨t',us⟩:=p
    simp only[hz,Option.bind_some]at hq
    split at hq
    ·rename_i he
     simp at he
     obtain⟨rfl,B2⟩:=he
     obtain⟨sp,k,g,rfl,rfl,hg,WY⟩:=iQ hq
     obtain⟨M',q1,q2,q3,q4,q5⟩:=sD true st aU (st.rho x') B st w β M _ t' [] _ (Fz.refl st) h vx hz
     exact dG.less q3 (fin M' t' q1 B2 sp k g hg (by cases sp;exact q4.toV;exact q4))
    ·simp[Q.run]at hq
  ·obtain⟨sp,k,g,rfl,rfl,hg,WY⟩:=iQ hq
   exact fin M _ h SP sp k g hg (by cases sp;exact vx;(have:=WY rfl;simp_all))
omit cI in
theorem I3{d:Nat}{sh:Bool}{t:TypeId}(ho:o.op= .makeMap t none)(hq:(bT d st.rho (.mkmap sh)).run st.get st.sh.length=some (.val v ups)):dG P B st a w β M o v ups:=by
 simp only[bT]at hq
 obtain⟨sp,k,g,rfl,rfl,hg,WY⟩:=iQ hq
 refine yf (ext:=0) (cv:= .map (some w.heap.size)) (o':= .map #[] 0) ?_ (IV h sp k g hg (.map #[] 0) 0 (.map [] [] false) ?_) ?_
 ·simp[execOp,ho,Instr.makeMap]
 ·unfold dO
  simp only[cD]
  exact⟨#[],0,by rw[heap_alloc,if_pos rfl],MapKept.stamped_empty 0,by simp[PList],by simp[PList],fun _ _=>Or.inr (by trivial)⟩
 ·simp[aw,cD,ef]
theorem Mu{d:Nat}{sh:Bool}{t e:TypeId}{l c:Operand}{l':bq}{i:TypeInfo}{z:T}(ho:o.op= .makeSlice t l c)(ht:P.underlying t=some (.slice e))(hi:P.info? e=some i)(hz:mc P e=some z)(hl:dY l=some l')(gP:yb l c=true)
  (SN:noTup z=true) (oI:i.size=(cellsOf z).length) (h0:i.size≠0)
  (hq:(bT d st.rho (.mksl (cellsOf z) i.bytes l' sh)).run st.get st.sh.length=some (.val v ups)):dG P B st a w β M o v ups:=by
 have vl:=cI l l' hl
 have ec:a.eval c=a.eval l:=by
  unfold yb at gP
  split at gP
  ·simp at gP;subst gP;rfl
  ·simp at gP;subst gP;rfl
  ·cases gP
 simp only[bT]at hq
 split at hq
 ·rename_i n en
  obtain⟨k0,m,em,hm,rfl⟩:=gO en
  rw[em]at vl
  have el:=vl.int
  split at hq
  ·rename_i ff
   simp at ff
   obtain⟨dA,eO⟩:=ff
   obtain⟨sp,k,g,rfl,rfl,hg,WY⟩:=iQ hq
   obtain⟨i',zv,z1,z2,z3⟩:=qv hz
   rw[hi]at z1;simp at z1;subst z1
   obtain⟨c1,c2⟩:=qw (w:=w) (M:=M) (kC z3) SN
   have hlen:=PList.length _ _ c1
   have Rc:zv.cells.size=i.size:=by rw[oI,hlen];simp
   have Mv:=uE zv.cells m.toNat (by omega)
   have SQ:roomy=1099511627776:=rfl
   rw[SQ]at dA eO
   have I1:IntKind.i64.wrap m=m:=by
    simp[IntKind.wrap,IntKind.bits,IntKind.signed];omega
   have WZ:((Array.range (m.toNat*i.size)).map (fun j=>zv.cells[j%zv.cells.size]!)).size=m.toNat*i.size:=by simp
   refine yf (cv:= .slice (some ⟨w.heap.size,0,none⟩) m.toNat m.toNat) ?_ (rM h e ((Array.range (m.toNat*i.size)).map (fun j=>zv.cells[j%zv.cells.size]!)) (repl (cellsOf z) m.toNat) false sp k g hg ?_ (uF c2 _) ?_) ?_
   ·have hmul:(i.bytes:Int)*m=((m.toNat*i.bytes:Nat):Int):=by rw[Int.natCast_mul,Int.toNat_of_nonneg hm,Int.mul_comm]
    have:=wi (P:=P) (w:=w) (k:=k0) ht hi z2 hm I1 (by rw[hmul];omega) (by omega)
    simp[execOp,ho,ec,el,this]
   ·show PList w M _ _
    rw[qy,←oI,←Rc,Mv]
    have:=PList.repl c1 m.toNat
    rw[qz]
    ·exact this
    ·rw[qy];simp
   ·rw[WZ,qy,oI];exact Nat.le_refl _
   ·simp only[aw,cD,ef]
    refine⟨by simp,m.toNat,rfl,Nat.le_refl _, ?_⟩
    rw[WZ,oI];simp
  ·simp[Q.run]at hq
 ·simp[Q.run]at hq
end
end Go.Ev
namespace Go.Ev
open Go
theorem ij(st:St): ∀(us:List Up) (sp:Sp) (k:Nat),ib us sp k=false→(st.ups us).get sp k=st.get sp k:=by
 intro us
 induction us generalizing st with
 |nil=>intro sp k _;rfl
 |cons u us ih=>
  intro sp k hh
  obtain⟨cQ,k',e⟩:=u
  simp only[ib,List.any_cons,Bool.or_eq_false_iff]at hh
  simp only[St.ups]
  rw[ih (st.up (cQ,k',e)) sp k hh.2,dW,if_neg]
  rintro⟨rfl,rfl⟩
  simp at hh
theorem W0(st:St)(u:Up):(st.up u).fr=st.fr:=by obtain⟨sp,k,e⟩:=u;cases sp <;> rfl
theorem yg(st:St): ∀(us:List Up),(st.ups us).fr=st.fr:=by
 intro us
 induction us generalizing st with
 |nil=>rfl
 |cons u us ih=>simp only[St.ups];rw[ih,W0]
theorem sG: ∀{ps:List (Nat×Operand)} {r:List (Nat×bq)},oE ps=some r→ps.length=r.length∧ ∀(j i:Nat) (x:Operand) (i':Nat) (y:bq),ps[j]? =some (i,x)→r[j]? =some (i',y)→i'=i∧dY x=some y
 | [],r,h=>by simp[oE]at h;subst h;simp
 |(i0,x0)::ps,r,h=>by
  simp only[oE]at h
  split at h
  ·rename_i y r' h2 h3
   simp at h;subst h
   obtain⟨a1,a2⟩:=sG h3
   refine⟨by simp[a1],fun j i x i' y' b1 b2=> ?_⟩
   cases j with
   |zero=>simp at b1 b2;obtain⟨rfl,rfl⟩:=b1;obtain⟨rfl,rfl⟩:=b2;exact⟨rfl,h2⟩
   |succ j=>exact a2 j i x i' y' (by simpa using b1) (by simpa using b2)
  ·cases h
theorem As{w:World}{M:aM}{place:Nat→Option (Nat×Nat)}: ∀(parts:List (Nat×Value)) (ps:List (Nat×List T)) (zs:List T) (zc:Array Value) (rs:List T),
  PList w M zs zc.toList→zs.all single=true→parts.length=ps.length→(∀(j i:Nat) (cv:Value) (off:Nat) (ts:List T),parts[j]? =some (i,cv)→ps[j]? =some (off,ts)→place i=some (off,ts.length)∧PList w M ts cv.cells.toList∧ts.all single=true)→
  aH zs ps=some rs→ ∃rc,Instr.fill place zc parts=some rc∧PList w M rs rc.toList∧rs.all single=true∧rs.length=zs.length
 | [],ps,zs,zc,rs,hz,hs,hlen,hp,hf=>by
   cases ps with
   |nil=>simp[aH]at hf;subst hf;exact⟨zc,by simp[Instr.fill],hz,hs,rfl⟩
   |cons p ps=>simp at hlen
 |(i,cv)::parts,ps,zs,zc,rs,hz,hs,hlen,hp,hf=>by
  cases ps with
  |nil=>simp at hlen
  |cons p ps=>
   obtain⟨off,ts⟩:=p
   simp only[aH]at hf
   split at hf
   ·rename_i hle
    obtain⟨p1,p2,p3⟩:=hp 0 i cv off ts rfl rfl
    have qp:=PList.length _ _ p2
    have zA:=PList.length _ _ hz
    have oI:cv.cells.size=ts.length:=by rw[qp];simp
    have Rc:zc.size=zs.length:=by rw[zA];simp
    have hc: ¬((cv.cells.size≠ts.length||off+cv.cells.size>zc.size)=true):=by
     rw[oI,Rc];simp;omega
    have e:(cv.cells.zipIdx.foldl (fun(cs:Array Value) (p:Value×Nat)=>cs.setIfInBounds (off+p.2) p.1) zc).toList=splice zc.toList off cv.cells.toList:=by
     have:=rL off cv.cells.toList 0 zc
     rw[←Array.foldl_toList,Array.toList_zipIdx];simpa using this
    obtain⟨rc,r1,r2,r3,r4⟩:=As parts ps (splice zs off ts) (cv.cells.zipIdx.foldl (fun(cs:Array Value) (p:Value×Nat)=>cs.setIfInBounds (off+p.2) p.1) zc) rs
     (by rw[e];exact PList.splice hz p2) (pH hs p3) (by simpa using hlen) (fun j i cv off ts a b=>hp (j+1) i cv off ts (by simpa using a) (by simpa using b)) hf
    refine⟨rc, ?_,r2,r3,by rw[r4,dX]⟩
    simp only[Instr.fill,p1]
    rw[if_neg hc]
    exact r1
   ·cases hf
theorem uG{P:Program}{w:World}{t e:TypeId}{len n:Nat}{i:TypeInfo}{zv:Value}{parts:Array (Nat×Value)}{rc:Array Value}(ht:P.underlying t=some (.slice e))(hi:P.info? e=some i)(hn:i.size=n)(hz:i.zero=some zv)(hle:len*n≤16777216)
  (I4:Instr.fill (fun j=>some (j*n,n)) ((Array.range (len*n)).map (fun j=>zv.cells[j%zv.cells.size]!)) parts.toList=some rc):
  (Instr.buildSlice t len parts).run P w= .ok (.slice (some ⟨w.heap.size,0,none⟩) len len) (w.alloc (.cells rc e)):=by
 have wj: ¬(len*n>2 ^ 24):=by omega
 have hso:(sizeOf e).run P w= .ok n w:=by simp[sizeOf,typeInfo,hi,hn]
 have hzero:(zeroValue e).run P w= .ok zv w:=by simp[zeroValue,typeInfo,hi,hz]
 unfold Instr.buildSlice
 by_cases ZM:len*n=0
 ·have e0: ∀f:Nat→Value,(Array.range (len*n)).map f= #[]:=by
   intro f;rw[ZM];have h00:Array.range 0= #[]:=rfl
   rw[h00];simp
  rw[e0]at I4
  simp only[Sem.run_bind,run_underlying ht,Result.andThen_ok,hso,if_neg wj,if_pos ZM,Sem.run_pure,e0,I4]
  simp[newRow]
 ·simp only[Sem.run_bind,run_underlying ht,Result.andThen_ok,hso,if_neg wj,if_neg ZM,Sem.run_pure,hzero,I4]
  simp[newRow]
section
variable{P:Program}{B:eu}{st:St}{a:Act}{w:World}{β:bj}{M:aM}{o:Oper}{v:T}{ups:List Up}
variable(cI:jS β st.gens w M st.rho a.eval)(h:bz B st w β M)
theorem Tr.fz{bD:St}{M':aM}(hf:Fz st bD)(hs: ∀b x,M' b x→M b x):Tr st w β M bD w β M':=
 ⟨dc hs,fun _ _ _ _=>rfl,fun sp k=>by rw[hf.gens];exact Nat.le_refl _⟩
include cI h
theorem SR{d nx:Nat}{t e:TypeId}{len:Nat}{ps:Array (Nat×Operand)}{r:List (Nat×bq)}{z:T}{n:Nat}(ho:o.op= .buildSlice t len ps)(ht:P.underlying t=some (.slice e))(hz:mc P e=some z)(hn:dS P e=some n)(hr:oE ps.toList=some r)
  (SN:noTup z=true) (oI:n=(cellsOf z).length) (h0:n≠0) (qA:len*n≤16777216)
  (hq:(bT d st.rho (.bsl (cellsOf z) len r)).run st.get nx=some (.val v ups)):dG P B st a w β M o v ups:=by
 simp only[bT,Q.run_bind]at hq
 cases hm:(bC (Ev.fz false aU) (r.map fun p=>st.rho p.2)).run st.get nx with
 |none=>simp[hm]at hq
 |some p=>
  obtain⟨ts,us⟩:=p
  simp only[hm,Option.bind_some]at hq
  split at hq
  ·rename_i bl
   split at hq
   ·rename_i cs hf
    simp[Q.run]at hq;obtain⟨rfl,rfl⟩:=hq
    obtain⟨g1,g2⟩:=sG hr
    have mh:aA β st.gens w M (r.map fun p=>st.rho p.2) (ps.toList.map fun p=>a.eval p.2):=by
     have gen: ∀(qs:List (Nat×Operand)) (rs:List (Nat×bq)),qs.length=rs.length→(∀(j i:Nat) (x:Operand) (i':Nat) (y:bq),qs[j]? =some (i,x)→rs[j]? =some (i',y)→i'=i∧dY x=some y)→aA β st.gens w M (rs.map fun p=>st.rho p.2) (qs.map fun p=>a.eval p.2):=by
      intro qs
      induction qs with
      |nil=>intro rs hl _;cases rs with|nil=>simp[aA]|cons _ _=>simp at hl
      |cons q qs ih=>
       intro rs hl hg
       cases rs with
       |nil=>simp at hl
       |cons rr rs=>
        simp only[List.map_cons,aA]
        exact⟨_,_,rfl,cI _ _ (hg 0 q.1 q.2 rr.1 rr.2 rfl rfl).2,ih rs (by simpa using hl) (fun j i x i' y a b=>hg (j+1) i x i' y (by simpa using a) (by simpa using b))⟩
     exact gen _ _ g1 g2
    obtain⟨M',q1,q2,q3,q4,q5,q6⟩:=jc (fun t=>sD false st aU t) _ B st w β M _ ts us nx (Fz.refl st) h mh hm
    have ZN:PList w M' ts (ps.toList.map fun p=>a.eval p.2):=q4
    obtain⟨i,zv,z1,z2,z3⟩:=qv hz
    obtain⟨c1,c2⟩:=qw (w:=w) (M:=M') (kC z3) SN
    have hzl:=PList.length _ _ c1
    have W1:i.size=n:=by unfold dS at hn;rw[z1]at hn;simpa using hn
    have Rc:zv.cells.size=n:=by rw[oI,hzl];simp
    have Mv:=uE zv.cells len (by omega)
    rw[Rc]at Mv
    have W2:PList w M' (repl (cellsOf z) len) ((Array.range (len*n)).map (fun j=>zv.cells[j%n]!)).toList:=by
     rw[Mv];exact PList.repl c1 len
    obtain⟨rc,r1,r2,r3,r4⟩:=As (place:=fun i=>some (i*n,n)) (ps.toList.map fun p=>(p.1,a.eval p.2)) _ (repl (cellsOf z) len) _ cs W2 (uF c2 len) (by simp[g1,q6]) (by
     intro j i cv off tt b1 b2
     rw[List.getElem?_map,Option.map_eq_some_iff]at b1
     obtain⟨⟨i1,x⟩,c3,c4⟩:=b1
     simp at c4;obtain⟨rfl,rfl⟩:=c4
     rw[List.getElem?_zip_eq_some]at b2
     obtain⟨b3,b4⟩:=b2
     rw[List.getElem?_map,Option.map_eq_some_iff]at b3 b4
     obtain⟨⟨i2,y⟩,d1,d2⟩:=b3
     obtain⟨tv,d3,d4⟩:=b4
     obtain⟨e1,e2⟩:=g2 j i1 x i2 y c3 d1
     subst e1
     simp at d2
     obtain⟨cv',f1,f2⟩:=ZN.get d3
     rw[List.getElem?_map,c3]at f1
     simp at f1;subst f1
     have uH:=(List.all_eq_true.1 bl) _ (List.mem_of_getElem? d3)
     simp at uH
     obtain⟨k1,k2⟩:=qw f2 uH.2
     subst d4
     exact⟨by rw[uH.1,←oI,←d2,oI],k1,k2⟩) hf
    obtain⟨p1,p2⟩:=Sw q1 (.cells rc e)
    refine⟨_,.slice (some ⟨w.heap.size,0,none⟩) len len,w.alloc (.cells rc e),β,M', ?_,.inl rfl,p1,(Tr.fz q2 q3).trans p2 (Nat.le_refl _),by show _≤(w.heap.push _).size;simp, ?_⟩
    ·have:=uG (P:=P) (w:=w) (t:=t) (e:=e) (len:=len) (n:=n) (parts:=ps.map fun(i,x)=>(i,a.eval x)) (rc:=rc) ht z1 W1 z2 qA (by rw[Rc];simpa using r1)
     simp[execOp,ho,this]
    ·simp only[aw,PRel]
     refine⟨w.heap.size,0,len,none,rfl,Nat.le_refl _,fun _=>rfl,.inl rfl, ?_⟩
     have SS:=PList.length _ _ r2
     refine aY.of (c:=rc) (el:=e) (fz:=(0,0)) (by rw[heap_alloc,if_pos rfl]) _ _ ?_ ?_ r3
     ·rw[List.drop_zero,qz SS];exact PList.mono p2.keep _ _ r2
     ·intro x _ _ SK
      exact Nat.lt_irrefl _ (q1.mlt _ _ SK)
   ·simp[Q.run]at hq
  ·simp[Q.run]at hq
end
end Go.Ev
namespace Go.Ev
open Go
theorem ny{w:World}{g:Nat}{Mw cs:Array Value}{t:TypeId}{fr:Nat×Nat}(hg:w.heap[g]? =some (.cells Mw t fr)):w.setRow g cs=setBlock w g (.cells cs t fr):=by
 unfold World.setRow setBlock
 congr 1
 apply Array.ext_getElem?
 intro i
 rw[Array.getElem?_modify,Array.getElem?_setIfInBounds]
 split
 ·rename_i e;subst e;rw[hg,if_pos (gD hg)];rfl
 ·rfl
theorem aw.one{β:bj}{G:Sp→Nat→Nat}{w:World}{M:aM}{t:T}{cv:Value}(h:aw β G w M t cv)(hs:single t=true):cv.oneCell'=true:=by
 cases t <;> simp[single]at hs <;> simp only[aw,PRel]at h
 all_goals first
  |(subst h;rfl)
  |(obtain⟨_,rfl,_⟩:=h;rfl)
  |(obtain⟨_,_,rfl,_⟩:=h;rfl)
  |(obtain⟨_,_,_,rfl,_⟩:=h;rfl)
  |(obtain⟨_,_,_,_,rfl,_⟩:=h;rfl)
  |(obtain⟨_,rfl⟩:=h;rfl)
theorem aA.one{β:bj}{G:Sp→Nat→Nat}{w:World}{M:aM}: ∀{ts:List T} {vs:List Value},aA β G w M ts vs→ts.all single=true→ ∀v∈vs,v.oneCell'=true
 | [],vs,h,_=>by simp only[aA]at h;subst h;simp
 |t::ts,vs,h,hs=>by
  simp only[aA]at h
  obtain⟨u,us,rfl,h1,h2⟩:=h
  simp only[List.all_cons,Bool.and_eq_true]at hs
  intro v hv
  simp at hv
  rcases hv with rfl|hv
  ·exact h1.one hs.1
  ·exact aA.one h2 hs.2 v hv
theorem Mx(l vs:List Value)(k:Nat)(hk:k+vs.length≤l.length)(j:Nat):(l.take k++vs++l.drop (k+vs.length))[j]? =(splice l k vs)[j]? :=by
 rw[eE]
 by_cases h1:j<k
 ·rw[if_neg (by omega),List.append_assoc,List.getElem?_append_left (by simp;omega),List.getElem?_take,if_pos h1]
 ·by_cases h2:j<k+vs.length
  ·rw[if_pos (by omega),List.append_assoc,List.getElem?_append_right (by simp;omega),List.getElem?_append_left (by simp;omega)]
   congr 1;simp;omega
  ·rw[if_neg (by omega),List.getElem?_append_right (by simp;omega),List.getElem?_drop]
   congr 1;simp;omega
theorem Cx(l vs:List Value)(k:Nat)(hk:k+vs.length≤l.length):l.take k++vs++l.drop (k+vs.length)=splice l k vs:=by
 apply List.ext_getElem?;intro j;exact Mx l vs k hk j
section
variable{P:Program}{B:eu}{st:St}{a:Act}{w:World}{β:bj}{M:aM}{o:Oper}{v:T}{ups:List Up}
theorem At(h:bz B st w β M){sp:Sp}{k g wm:Nat}{cs:List T}{bx:Bool}(he:st.get sp k=⟨g,.cells cs wm bx⟩)(g':Nat)(UY:g≤g'){c:Array Value}{el:TypeId}
  (hb:w.heap[(β sp k g).blk]? =some (.cells c el (0,0))) (off:Nat) (vs:List Value) (qB:List T) (Cy:wm≤off) (My:off+vs.length≤(β sp k g).ext) (hle:cs.length≤qB.length) (acm:qB.length≤(β sp k g).ext) (hs:qB.all single=true)
  (hl:jl sp bx β st.gens w M qB ((splice (c.toList.drop (β sp k g).off) off vs).take qB.length)):
  bz B (st.up (sp,k,⟨g',.cells qB wm bx⟩)) (setBlock w (β sp k g).blk (.cells (splice c.toList ((β sp k g).off+off) vs).toArray el)) (gh β sp k g' (β sp k g)) M∧
  Tr st w β M (st.up (sp,k,⟨g',.cells qB wm bx⟩)) (setBlock w (β sp k g).blk (.cells (splice c.toList ((β sp k g).off+off) vs).toArray el)) (gh β sp k g' (β sp k g)) M:=by
 have hg:st.gens sp k=g:=by show(st.get sp k).g=g;rw[he]
 have SU:live (st.get sp k):=by rw[he];trivial
 have ho:=h.obj sp k
 rw[he]at ho
 unfold dO at ho
 obtain⟨c0,el0,fz0,h1,h2,h3,h4,h5,h6,h7,h8⟩:=ho
 dsimp only at h1 h2 h3 h4 h6
 rw[hb]at h1
 simp at h1
 obtain⟨rfl,rfl,rfl⟩:=h1
 have Mz:=gD hb
 have hk:dz w M (setBlock w (β sp k g).blk (.cells (splice c.toList ((β sp k g).off+off) vs).toArray el)) M:=by
  refine⟨fun b x u hu hm=> ?_,fun b es cl hu hm=> ?_,fun _ _ _ h=>h⟩
  ·by_cases FV:b=(β sp k g).blk
   ·subst FV
    unfold World.cell? at hu ⊢
    rw[hb]at hu
    rw[dh,if_pos ⟨rfl,Mz⟩]
    simp at hu ⊢
    rw[eE,if_neg]
    ·simpa using hu
    ·rintro⟨q1,q2,q3⟩
     apply hm
     have:=h6 (x-(β sp k g).off) (by omega) (by omega)
     rwa [show(β sp k g).off+(x-(β sp k g).off)=x by omega]at this
   ·rw[ic (w:=w) (by rw[dh,if_neg (fun e=>FV e.1)])];exact hu
  ·by_cases FV:b=(β sp k g).blk
   ·subst FV;rw[hb]at hu;simp at hu
   ·rw[dh,if_neg (fun e=>FV e.1)];exact hu
 have El: ∀cQ k' W3,W3≤st.gens cQ k'→gh β sp k g' (β sp k g) cQ k' W3=β cQ k' W3:=by
  intro cQ k' W3 wj
  by_cases e:cQ=sp∧k'=k∧W3=g'
  ·obtain⟨rfl,rfl,rfl⟩:=e
   rw[cD,←hg]
   congr 1;omega
  ·exact qn _ _ _ _ _ e
 have hG: ∀cQ k',st.gens cQ k'≤(st.up (sp,k,⟨g',.cells qB wm bx⟩)).gens cQ k':=by
  intro cQ k';rw[ef];split
  ·rename_i e;obtain⟨rfl,rfl⟩:=e;rw[hg];exact UY
  ·exact Nat.le_refl _
 have key:=D8 (M':=M) h sp k g' (.cells qB wm bx) SU (by rw[hg];exact UY) (.cells (splice c.toList ((β sp k g).off+off) vs).toArray el) (fun _ _ hm=>hm) (fun _ _ _ hm=>hm) (by rw[hg];exact hk) (h.base SU)
 rw[hg]at key
 refine key ?_
 unfold dO
 simp only[cD]
 refine⟨_,el,(0,0),by rw[dh,if_pos ⟨rfl,Mz⟩],by simp[dX];omega,acm,rfl, ?_,h6,hs,by omega⟩
 have Rd:(splice c.toList ((β sp k g).off+off) vs).drop (β sp k g).off=splice (c.toList.drop (β sp k g).off) off vs:=by
  apply List.ext_getElem?
  intro j
  rw[List.getElem?_drop,eE,eE,List.getElem?_drop,List.length_drop]
  have e:(β sp k g).off+j-((β sp k g).off+off)=j-off:=by omega
  rw[e]
  by_cases hc:off≤j∧j<off+vs.length∧j<c.toList.length-(β sp k g).off
  ·rw[if_pos hc,if_pos (by omega)]
  ·rw[if_neg hc,if_neg (by omega)]
 simp only[List.toList_toArray]at Rd ⊢
 rw[Rd]
 exact jl.mono hk El hG hl
variable(cI:jS β st.gens w M st.rho a.eval)(h:bz B st w β M)
include h
omit h in
theorem wX{M':aM}{us:List Up}{t:TypeId}{n:Nat}{x y:Operand}{sp:Sp}{k g off wm:Nat}{cs:List T}{bx:Bool}{ts:List T}(ho:o.op= .store t x y)(hn:dS P t=some n)(h':bz B (st.ups us) w β M')(htr:Tr st w β M (st.ups us) w β M')
  (hx:a.eval x= .pointer (some ⟨(β sp k g).blk,(β sp k g).off+off,none⟩)) (he:(st.ups us).get sp k=⟨g,.cells cs wm bx⟩) (Cy:wm≤off) (hle:off+n≤cs.length) (hlen:ts.length=n) (hs:ts.all single=true)
  (hl:jl sp bx β (st.ups us).gens w M' ts (a.eval y).cells.toList):
  dG P B st a w β M o bA (us++ [(sp,k,⟨g,.cells (splice cs off ts) wm bx⟩)]):=by
 have ye:=h'.obj sp k
 rw[he]at ye
 unfold dO at ye
 obtain⟨c,el,fz,h1,h2,h3,h4,h5,h6,h7,h8⟩:=ye
 dsimp only at h1 h2 h3 h4 h5 h6
 subst h4
 have hlV:aA β (st.ups us).gens w M' ts (a.eval y).cells.toList:=hl.toV
 have mh:=aA.length _ _ hlV
 have SV:=aA.one hlV hs
 have sy:=run_storeCells_at P (β sp k g).blk ((β sp k g).off+off) el (a.eval y).cells.toList 0 c w h1 (by simp at mh ⊢; omega) SV
 rw[ny h1]at sy
 simp only[Nat.add_zero]at sy
 rw[Cx _ _ _ (by simp at mh ⊢; omega)]at sy
 have key:=At h' he g (Nat.le_refl _) h1 off (a.eval y).cells.toList (splice cs off ts) Cy (by omega) (by rw[dX];exact Nat.le_refl _) (by rw[dX];exact h3) (pH h7 hs) (by
  rw[dX]
  have W4:(splice (c.toList.drop (β sp k g).off) off (a.eval y).cells.toList).take cs.length=splice ((c.toList.drop (β sp k g).off).take cs.length) off (a.eval y).cells.toList:=by
   apply List.ext_getElem?
   intro j
   rw[List.getElem?_take,eE,eE,List.getElem?_take,List.length_take]
   by_cases hj:j<cs.length
   ·rw[if_pos hj,if_pos hj]
    by_cases hc:off≤j∧j<off+(a.eval y).cells.toList.length∧j<(c.toList.drop (β sp k g).off).length
    ·rw[if_pos hc,if_pos (by omega)]
    ·rw[if_neg hc,if_neg (by omega)]
   ·rw[if_neg hj,if_neg hj,if_neg (by omega)]
  rw[W4]
  cases bx
  ·exact PList.splice h5 hl
  ·cases sp
   ·exact aA.splice h5 hl
   ·exact fun bB G' p q=>aA.splice (h5 bB G' p q) (hl bB G' p q))
 rw[oF]at key
 refine⟨.skip,undef,setBlock w (β sp k g).blk (.cells (splice c.toList ((β sp k g).off+off) (a.eval y).cells.toList).toArray el),β,M', ?_,.inr ⟨rfl,rfl⟩, ?_, ?_,by rw[eS];exact Nat.le_refl _, ?_⟩
 ·have jo:(a.eval y).cells.size=n:=by simp at mh;omega
  simp[execOp,ho,hx,Instr.storeAt,Instr.sureAddr,storeVar,fM hn,jo,sy]
 ·rw[du];exact key.1
 ·rw[du];exact htr.trans key.2 (Nat.le_refl _)
 ·simp[aw,bA,undef,aA]
include cI
theorem W5{d:Nat}{t:TypeId}{n:Nat}{x y:Operand}{x' y':bq}(ho:o.op= .store t x y)(hx:dY x=some x')(hy:dY y=some y')(hn:dS P t=some n)
  (hq:(bT d st.rho (.st x' y' n)).run st.get st.sh.length=some (.val v ups)):dG P B st a w β M o v ups:=by
 have vx:=cI x x' hx
 have vy:=cI y y' hy
 simp only[bT,nS]at hq
 split at hq
 ·simp[Q.run]at hq
 ·rename_i hc
  simp at hc
  obtain⟨hlen,SP⟩:=hc
  split at hq
  ·rename_i sp k g off ex
   rw[ex]at vx
   simp only[aw]at vx
   simp only[Q.run]at hq
   split at hq
   ·rename_i hg
    generalize he:st.get sp k=e at*
    obtain⟨ge,ob⟩:=e
    dsimp only at hg;subst hg
    cases ob with
    |none=>simp[Q.run]at hq
    |map _ _ _=>simp[Q.run]at hq
    |cells cs wm bx=>
     dsimp only at hq
     split at hq
     ·rename_i Cy
      simp at Cy
      split at hq
      ·rename_i LQ
       simp at LQ
       obtain⟨rfl,rfl⟩:=LQ
       simp[Q.run]at hq;obtain⟨rfl,rfl⟩:=hq
       obtain⟨k1,k2⟩:=mU vy SP
       exact wX (us:= []) ho hn h (Tr.refl _ _ _ _) vx.2 he Cy.1 Cy.2 hlen k2 k1
      ·rename_i LQ
       simp only[Q.run_bind]at hq
       cases hz:(fz (bx&&sp== .S) aU (st.rho y')).run st.get st.sh.length with
       |none=>simp[hz]at hq
       |some p=>
        obtain⟨t',us⟩:=p
        simp only[hz,Option.bind_some]at hq
        split at hq
        ·simp[Q.run]at hq
        ·rename_i hh
         simp at hh
         obtain⟨⟨W6,SW⟩,hh3⟩:=hh
         simp[Q.run]at hq;obtain⟨rfl,rfl⟩:=hq
         obtain⟨M',q1,q2,q3,q4,q5⟩:=sD _ st aU (st.rho y') B st w β M _ t' us _ (Fz.refl st) h vy hz
         have MA:(st.ups us).get sp k=⟨ge,.cells cs wm bx⟩:=by rw[ij st us sp k W6];exact he
         refine wX (us:=us) ho hn q1 (Tr.fz q2 q3) vx.2 MA Cy.1 Cy.2 hh3 ?_ ?_
         ·exact(mU q4.toV SW).2
         ·cases bx with
          |false=>
           simp only[Bool.false_and]at q4
           exact(qw q4 SW).1
          |true=>
           cases sp with
           |L=>simp at LQ
           |S=>
            simp only[Bool.true_and,beq_self_eq_true]at q4
            rw[q2.gens]
            exact fun bB G' p q=>(mU (q4 bB G' p q) SW).1
     ·simp[Q.run]at hq
   ·simp[Q.run]at hq
  ·simp[Q.run]at hq
end
end Go.Ev
namespace Go.Ev
open Go
section
variable{P:Program}{B:eu}{st:St}{a:Act}{w:World}{β:bj}{M:aM}{o:Oper}{v:T}{ups:List Up}
variable(cI:jS β st.gens w M st.rho a.eval)(h:bz B st w β M)
theorem Cz{t kt et:TypeId}{ek:EK}{m:Option Nat}{es:Array MapEntry}{clock:Nat}{ks vs:List T}{k z r:T}{kv zv:Value}{ok:Bool}(ht:P.underlying t=some (.map kt et))(hk:keyOf P kt=some ek)
  (hm:(m=none∧es= #[])∨ ∃blk,m=some blk∧w.heap[blk]? =some (.map es clock)) (ZO:PList w M ks (es.toList.map (·.key))) (hvs:PList w M vs (es.toList.map (·.val))) (hkv:aw β st.gens w M k kv) (hz:(zeroValue et).run P w= .ok zv w) (hzr:PRel w M z zv)
  (hq:lN ek ks vs k z ok=some r): ∃cv,(Instr.lookup t (.map m) kv ok).run P w= .ok cv w∧aw β st.gens w M r cv:=by
 unfold lN at hq
 split at hq
 ·cases hq
 ·rename_i Cv
  simp at Cv
  have LP:(Instr.checkKey es.isEmpty 10000 kt kv).run P w= .ok () w:=sE (P:=P) hk hkv Cv 9998 es.isEmpty
  have run: ∀res,(Instr.findKey kt kv es.toList).run P w= .ok res w→(Instr.lookup t (.map m) kv ok).run P w=
    .ok (match res with|some (_,cv)=>if ok then .tuple #[cv,.bool true]else cv|none=>if ok then .tuple #[zv,.bool false]else zv) w:=by
   intro res pd
   unfold Instr.lookup
   rcases hm with⟨rfl,rfl⟩|⟨blk,rfl,hb⟩
   ·simp only[Sem.run_bind,run_underlying ht,Result.andThen_ok,Sem.run_pure,LP,pd]
    cases res with
    |none=>simp[hz]
    |some p=>simp
   ·have tm:(getObj blk).run P w= .ok (.map es clock) w:=by simp[getObj,Sem.run,hb]
    simp only[Sem.run_bind,run_underlying ht,Result.andThen_ok,Sem.run_pure,tm,LP,pd]
    cases res with
    |none=>simp[hz]
    |some p=>simp
  split at hq
  ·rename_i i hf
   obtain⟨res,r1,r2⟩:=mT (P:=P) hk hkv es.toList ks _ ZO hf
   obtain⟨e,e1,e2⟩:=r2
   simp only[Option.map_eq_some_iff]at hq
   obtain⟨v',yh,rfl⟩:=hq
   obtain⟨cv,c1,c2⟩:=hvs.get yh
   rw[List.getElem?_map,e1]at c1
   simp at c1;subst c1
   refine⟨_,run res r1, ?_⟩
   subst e2
   cases ok
   ·exact PRel.toV _ _ _ _ c2
   ·simp only[if_true,aw,aA]
    exact⟨_,rfl,_,_,rfl,PRel.toV _ _ _ _ c2,_,_,rfl,rfl,rfl⟩
  ·rename_i hf
   simp at hq;subst hq
   obtain⟨res,r1,r2⟩:=mT (P:=P) hk hkv es.toList ks _ ZO hf
   refine⟨_,run res r1, ?_⟩
   have:res=none:=r2
   subst this
   cases ok
   ·exact PRel.toV _ _ _ _ hzr
   ·simp only[if_true,aw,aA]
    exact⟨_,rfl,_,_,rfl,PRel.toV _ _ _ _ hzr,_,_,rfl,rfl,rfl⟩
  ·cases hq
include cI h
theorem W7{d nx:Nat}{t kt et:TypeId}{m k:Operand}{m' k':bq}{ok:Bool}{ek:EK}{z:T}(ho:o.op= .lookup t m k ok)(hm:dY m=some m')(hk:dY k=some k')(ht:P.underlying t=some (.map kt et))(UZ:keyOf P kt=some ek)(hz:mc P et=some z)
  (hq:(bT d st.rho (.lk ek m' k' z ok)).run st.get nx=some (.val v ups)):dG P B st a w β M o v ups:=by
 have vm:=cI m m' hm
 have vk:=cI k k' hk
 obtain⟨zv,z1,z2⟩:=wW hz w
 have fin: ∀(mm:Option Nat) (es:Array MapEntry) (clock:Nat) (ks vs:List T) (r:T),a.eval m= .map mm→((mm=none∧es= #[])∨ ∃blk,mm=some blk∧w.heap[blk]? =some (.map es clock))→PList w M ks (es.toList.map (·.key))→PList w M vs (es.toList.map (·.val))→
   lN ek ks vs (st.rho k') z ok=some r→dG P B st a w β M o r []:=by
  intro mm es clock ks vs r e1 e2 e3 e4 e5
  obtain⟨cv,r1,r2⟩:=Cz (P:=P) (β:=β) (st:=st) ht UZ e2 e3 e4 vk z1 (z2 w M) e5
  exact bk h (cv:=cv) (by simp[execOp,ho,e1,r1]) r2
 simp only[bT]at hq
 split at hq
 ·rename_i e
  rw[e]at vm;simp only[aw]at vm
  split at hq
  ·rename_i Cv
   simp[Q.run]at hq;obtain⟨rfl,rfl⟩:=hq
   exact fin none #[] 0 [] [] _ vm (.inl ⟨rfl,rfl⟩) (by simp[PList]) (by simp[PList]) (by simp[lN,Cv,eM])
  ·simp[Q.run]at hq
 ·rename_i ks vs e
  rw[e]at vm;simp only[aw,PRel]at vm
  obtain⟨blk,es,clock,e1,e2,_,_,e3,e4⟩:=vm
  cases hl:lN ek ks vs (st.rho k') z ok with
  |none=>simp[hl,Ev.val,Q.run]at hq
  |some r=>
   simp[hl,Ev.val,Q.run]at hq;obtain⟨rfl,rfl⟩:=hq
   exact fin _ es clock ks vs _ e1 (.inr ⟨blk,rfl,e2⟩) e3 e4 hl
 ·rename_i sp kk g e
  rw[e]at vm;simp only[aw]at vm
  simp only[Q.run]at hq
  split at hq
  ·rename_i hg
   have ye:=h.obj sp kk
   generalize he:st.get sp kk=en at*
   obtain⟨ge,ob⟩:=en
   dsimp only at hg;subst hg
   cases ob with
   |none=>simp[Q.run]at hq
   |cells _ _ _=>simp[Q.run]at hq
   |map ks vs f=>
    dsimp only at hq
    unfold dO at ye
    obtain⟨es,clock,e2,_,e3,e4,_⟩:=ye
    cases hl:lN ek ks vs (st.rho k') z ok with
    |none=>simp[hl,Ev.val,Q.run]at hq
    |some r=>
     simp[hl,Ev.val,Q.run]at hq;obtain⟨rfl,rfl⟩:=hq
     exact fin _ es clock ks vs _ vm.2 (.inr ⟨_,rfl,e2⟩) e3 e4 hl
  ·simp[Q.run]at hq
 ·simp[Q.run]at hq
omit cI h
theorem PList.set{ts:List T}{vs:List Value}(i:Nat){t:T}{cv:Value}(h:PList w M ts vs)(ht:PRel w M t cv):PList w M (ts.set i t) (vs.set i cv):=by
 induction ts generalizing vs i with
 |nil=>simp only[PList]at h;subst h;simp[PList]
 |cons x xs ih=>
  simp only[PList]at h
  obtain⟨u,us,rfl,h1,h2⟩:=h
  cases i with
  |zero=>simp only[List.set_cons_zero,PList];exact⟨cv,us,rfl,ht,h2⟩
  |succ i=>simp only[List.set_cons_succ,PList];exact⟨u,_,rfl,h1,ih i h2⟩
theorem pw{c:CK}{x y:T}{xv yv:Value}(hx:aw β st.gens w M x xv)(hy:aw β st.gens w M y yv)(h:dE c x y=some true)(n:Nat):Instr.sameBits n yv xv=true:=by
 unfold dE at h
 split at h
 ·simp at h;subst h;rw[hx.bool,hy.bool];simp[Instr.sameBits]
 ·split at h
  ·rename_i e;subst e;simp at h;subst h;rw[hx.int,hy.int];simp[Instr.sameBits]
  ·cases h
 ·simp at h;subst h
  obtain⟨b1,e1,f1⟩:=hx.str
  obtain⟨b2,e2,f2⟩:=hy.str
  rw[e1,e2]
  have:(b2==b1)=true:=by
   rw[beq_toListBytes,←fy,←di,←di,f1,f2];simp
  simp only[Instr.sameBits];exact this
 ·cases h
theorem nW: ∀{ks:List CK} {xs ys:List T} {xv yv:List Value},aA β st.gens w M xs xv→aA β st.gens w M ys yv→cK ks xs ys=some true→ ∀n,xv.length=yv.length∧((yv.zip xv).all fun p=>Instr.sameBits n p.1 p.2)=true
 | [],xs,ys,xv,yv,hx,hy,h,n=>by
   cases xs <;> cases ys <;> simp[cK]at h
   simp only[aA]at hx hy;subst hx;subst hy;simp
 |k::ks,xs,ys,xv,yv,hx,hy,h,n=>by
  cases xs with
  |nil=>cases ys <;> simp[cK]at h
  |cons x xs=>
   cases ys with
   |nil=>simp[cK]at h
   |cons y ys=>
    simp only[aA]at hx hy
    obtain⟨u,us,rfl,h1,h2⟩:=hx
    obtain⟨u',us',rfl,px,Au⟩:=hy
    simp only[cK]at h
    cases hc:dE k x y with
    |none=>simp[hc]at h
    |some b=>
     cases b with
     |false=>simp[hc]at h
     |true=>
      simp only[hc]at h
      obtain⟨l1,l2⟩:=nW h2 Au h n
      simp only[List.length_cons,List.zip_cons_cons,List.all_cons,Bool.and_eq_true]
      exact⟨by omega,pw h1 px hc n,l2⟩
theorem yi{ek:EK}{x y:T}{xv yv:Value}(lq:(∃c,ek= .one c)∨ ∃ks,ek= .flat ks)(hx:aw β st.gens w M x xv)(hy:aw β st.gens w M y yv)(h:mN ek x y=some true)(n:Nat):Instr.sameBits (n+1) yv xv=true:=by
 rcases lq with⟨c,rfl⟩|⟨ks,rfl⟩
 ·exact pw hx hy h _
 ·unfold mN at h
  split at h <;> simp_all
  rename_i xs ys
  simp only[aw]at hx hy
  obtain⟨xa,rfl,lx,_⟩:=hx
  obtain⟨ya,rfl,ly,_⟩:=hy
  obtain⟨l1,l2⟩:=nW lx ly h n
  simp only[Instr.sameBits,Bool.and_eq_true]
  refine⟨by simp at l1 ⊢; exact l1.symm,l2⟩
theorem Av{ek:EK}{k:T}: ∀{ks:List T} {i:Nat},eM ek k ks=some (some i)→ ∃x,ks[i]? =some x∧mN ek k x=some true
 | [],i,h=>by simp[eM]at h
 |x::xs,i,h=>by
  simp only[eM]at h
  split at h
  ·rename_i he;simp at h;subst h;exact⟨x,rfl,he⟩
  ·simp only[Option.map_eq_some_iff]at h
   obtain⟨r,h1,h2⟩:=h
   cases r with
   |none=>simp at h2
   |some j=>
    simp at h2;subst h2
    obtain⟨y,e1,e2⟩:=Av h1
    exact⟨y,by simpa using e1,e2⟩
  ·cases h
theorem sH{c:CK}{x y:T}{xv yv:Value}(hx:aw β st.gens w M x xv)(hy:aw β st.gens w M y yv)(h:dE c x y=some true):xv=yv:=by
 unfold dE at h
 split at h
 ·simp at h;subst h;rw[hx.bool,hy.bool]
 ·split at h
  ·rename_i e;subst e;simp at h;subst h;rw[hx.int,hy.int]
  ·cases h
 ·simp at h;subst h
  obtain⟨b1,e1,f1⟩:=hx.str
  obtain⟨b2,e2,f2⟩:=hy.str
  rw[e1,e2]
  have h3:cR b1=cR b2:=f1.trans f2.symm
  have h4:b1.data.toList=b2.data.toList:=(List.map_inj_right (f:=UInt8.toNat) (fun _ _ h=>UInt8.toNat_inj.1 h)).1 h3
  have h5:b1=b2:=ByteArray.ext (Array.toList_inj.1 h4)
  rw[h5]
 ·cases h
theorem qC: ∀{ks:List CK} {xs ys:List T} {xv yv:List Value},aA β st.gens w M xs xv→aA β st.gens w M ys yv→cK ks xs ys=some true→xv=yv
 | [],xs,ys,xv,yv,hx,hy,h=>by
   cases xs <;> cases ys <;> simp[cK]at h
   simp only[aA]at hx hy;subst hx;subst hy;rfl
 |k::ks,xs,ys,xv,yv,hx,hy,h=>by
  cases xs with
  |nil=>cases ys <;> simp[cK]at h
  |cons x xs=>
   cases ys with
   |nil=>simp[cK]at h
   |cons y ys=>
    simp only[aA]at hx hy
    obtain⟨u,us,rfl,h1,h2⟩:=hx
    obtain⟨u',us',rfl,px,Au⟩:=hy
    simp only[cK]at h
    cases hc:dE k x y with
    |none=>simp[hc]at h
    |some b=>
     cases b with
     |false=>simp[hc]at h
     |true=>
      simp only[hc]at h
      rw[sH h1 px hc,qC h2 Au h]
theorem I5{ek:EK}{x y:T}{xv yv:Value}(lq:(∃c,ek= .one c)∨ ∃ks,ek= .flat ks)(hx:aw β st.gens w M x xv)(hy:aw β st.gens w M y yv)(h:mN ek x y=some true):xv=yv:=by
 rcases lq with⟨c,rfl⟩|⟨ks,rfl⟩
 ·exact sH hx hy h
 ·unfold mN at h
  split at h <;> simp_all
  rename_i xs ys
  simp only[aw]at hx hy
  obtain⟨xa,rfl,lx,_⟩:=hx
  obtain⟨ya,rfl,ly,_⟩:=hy
  have:=qC lx ly h
  rw[Array.toList_inj.1 this]
theorem qD{c:CK}{x y:T}{v:Value}(hx:aw β st.gens w M x v)(hy:aw β st.gens w M y v)(h:dE c x y=some false):False:=by
 unfold dE at h
 split at h
 ·have e:=hx.bool;rw[hy.bool]at e;cases e;simp at h
 ·split at h
  ·rename_i e;subst e
   have e:=hx.int;rw[hy.int]at e;cases e;simp at h
  ·cases h
 ·obtain⟨b1,e1,f1⟩:=hx.str
  obtain⟨b2,e2,f2⟩:=hy.str
  rw[e1]at e2;cases e2
  rw[←f1,←f2]at h;simp at h
 ·cases h
theorem py: ∀{ks:List CK} {xs ys:List T} {v:List Value},aA β st.gens w M xs v→aA β st.gens w M ys v→cK ks xs ys=some false→False
 | [],xs,ys,v,hx,hy,h=>by
   cases xs <;> cases ys <;> simp[cK]at h
 |k::ks,xs,ys,v,hx,hy,h=>by
  cases xs with
  |nil=>cases ys <;> simp[cK]at h
  |cons x xs=>
   cases ys with
   |nil=>simp[cK]at h
   |cons y ys=>
    simp only[aA]at hx hy
    obtain⟨u,us,rfl,h1,h2⟩:=hx
    obtain⟨u',us',e,px,Au⟩:=hy
    cases e
    simp only[cK]at h
    cases hc:dE k x y with
    |none=>simp[hc]at h
    |some b=>
     cases b with
     |false=>exact qD h1 px hc
     |true=>
      simp only[hc]at h
      exact py h2 Au h
theorem FW{ek:EK}{x y:T}{v:Value}(lq:(∃c,ek= .one c)∨ ∃ks,ek= .flat ks)(hx:aw β st.gens w M x v)(hy:aw β st.gens w M y v)(h:mN ek x y=some false):False:=by
 rcases lq with⟨c,rfl⟩|⟨ks,rfl⟩
 ·exact qD hx hy h
 ·unfold mN at h
  split at h <;> simp_all
  rename_i xs ys
  simp only[aw]at hx hy
  obtain⟨xa,rfl,lx,_⟩:=hx
  obtain⟨ya,e,ly,_⟩:=hy
  cases e
  exact py lx ly h
theorem uI{ek:EK}{k:T}: ∀{ks:List T},eM ek k ks=some none→ ∀x∈ks,mN ek k x=some false
 | [],h,x,hx=>by simp at hx
 |y::ys,h,x,hx=>by
  simp only[eM]at h
  split at h
  ·simp at h
  ·rename_i he
   simp only[Option.map_eq_some_iff]at h
   obtain⟨r,h1,h2⟩:=h
   cases r with
   |some j=>simp at h2
   |none=>
    rcases List.mem_cons.1 hx with rfl|hx
    ·exact he
    ·exact uI h1 x hx
  ·cases h
theorem PList.getV{w:World}{M:aM}: ∀{ts:List T} {vs:List Value},PList w M ts vs→ ∀{j:Nat} {v:Value},vs[j]? =some v→ ∃t,ts[j]? =some t∧PRel w M t v
 | [],vs,h,j,v,hv=>by simp only[PList]at h;subst h;simp at hv
 |x::xs,vs,h,j,v,hv=>by
  simp only[PList]at h
  obtain⟨u,us,rfl,h1,h2⟩:=h
  cases j with
  |zero=>simp at hv;subst hv;exact⟨x,rfl,h1⟩
  |succ j=>obtain⟨t,e1,e2⟩:=PList.getV h2 (j:=j) (v:=v) (by simpa using hv);exact⟨t,by simpa using e1,e2⟩
theorem Re(h:bz B st w β M){sp:Sp}{k g:Nat}{ks vs:List T}(he:st.get sp k=⟨g,.map ks vs false⟩)(Aw:Array MapEntry)(kD:Nat)(aco:MapKept.Stamped Aw kD)(Rb mR:List T)(hk:PList w M Rb (Aw.toList.map (·.key)))(hv:PList w M mR (Aw.toList.map (·.val))):
  bz B (st.up (sp,k,⟨g,.map Rb mR false⟩)) (setBlock w (β sp k g).blk (.map Aw kD)) β M∧Tr st w β M (st.up (sp,k,⟨g,.map Rb mR false⟩)) (setBlock w (β sp k g).blk (.map Aw kD)) β M:=by
 have hg:st.gens sp k=g:=by show(st.get sp k).g=g;rw[he]
 have SU:live (st.get sp k):=by rw[he];trivial
 have ho:=h.obj sp k
 rw[he]at ho
 unfold dO at ho
 obtain⟨es,clock,h1,_,h2,h3,h4⟩:=ho
 dsimp only at h1 h4
 have Mz:=gD h1
 have hkp:dz w M (setBlock w (β sp k g).blk (.map Aw kD)) M:=by
  refine⟨fun b x u hu hm=> ?_,fun b es cl hu hm=> ?_,fun _ _ _ h=>h⟩
  ·by_cases FV:b=(β sp k g).blk
   ·subst FV;exact absurd (h4 rfl x) hm
   ·rw[ic (w:=w) (by rw[dh,if_neg (fun e=>FV e.1)])];exact hu
  ·by_cases FV:b=(β sp k g).blk
   ·subst FV;exact absurd (h4 rfl 0) (hm 0)
   ·rw[dh,if_neg (fun e=>FV e.1)];exact hu
 have key:=D8 (M':=M) h sp k g (.map Rb mR false) SU (Nat.le_of_eq hg) (.map Aw kD) (fun _ _ hm=>hm) (fun _ _ _ hm=>hm) (by rw[hg];exact hkp) (h.base SU)
 rw[hg,oF]at key
 refine key ?_
 exact⟨Aw,kD,by rw[dh,if_pos ⟨rfl,Mz⟩],aco,PList.mono hkp _ _ hk,PList.mono hkp _ _ hv,h4⟩
include cI h
theorem W8{d:Nat}{t kt et:TypeId}{m k x:Operand}{m' k' x':bq}{ek:EK}(ho:o.op= .mapUpdate t m k x)(hm:dY m=some m')(hk:dY k=some k')(hx:dY x=some x')(ht:P.underlying t=some (.map kt et))(UZ:keyOf P kt=some ek)
  (hq:(bT d st.rho (.mu ek m' k' x')).run st.get st.sh.length=some (.val v ups)):dG P B st a w β M o v ups:=by
 have vm:=cI m m' hm
 have vk:=cI k k' hk
 have vx:=cI x x' hx
 simp only[bT]at hq
 split at hq
 ·rename_i sp kk g e
  rw[e]at vm;simp only[aw]at vm
  simp only[Q.run]at hq
  split at hq
  ·rename_i hg
   simp at hg
   obtain⟨hg,Cv⟩:=hg
   generalize he:st.get sp kk=en at*
   obtain⟨ge,ob⟩:=en
   dsimp only at hg;subst hg
   split at hq
   ·rename_i ks vs heq
    dsimp only at heq;subst heq
    simp only[Q.run_bind]at hq
    cases hz:(fz false aU (st.rho x')).run st.get st.sh.length with
    |none=>simp[hz]at hq
    |some p=>
     obtain⟨t',us⟩:=p
     simp only[hz,Option.bind_some]at hq
     split at hq
     ·rename_i q jY
      split at hq
      ·simp[Q.run]at hq
      ·rename_i hh
       simp at hh
       simp[Q.run]at hq;obtain⟨rfl,rfl⟩:=hq
       obtain⟨M',q1,q2,q3,q4,q5⟩:=sD _ st aU (st.rho x') B st w β M _ t' us _ (Fz.refl st) h vx hz
       have ZN:PRel w M' t' (a.eval x):=q4
       have MA:(st.ups us).get sp kk=⟨ge,.map ks vs false⟩:=by rw[ij st us sp kk hh];exact he
       have ye:=q1.obj sp kk
       rw[MA]at ye
       unfold dO at ye
       obtain⟨es,clock,e2,sy,e3,e4,_⟩:=ye
       dsimp only at e2
       have LR:aw β st.gens w M' (st.rho k') (a.eval k):=aw.mono (dc q3) (fun _ _ _ _=>rfl) (fun _ _=>Nat.le_refl _) _ _ vk
       have LP:(Instr.checkKey false 10000 kt (a.eval k)).run P w= .ok () w:=sE (P:=P) UZ LR Cv 9998 false
       obtain⟨_,lq⟩:=Cu UZ
       have kp:PRel w M' (st.rho k') (a.eval k):=by
        generalize st.rho k'=tk at*
        cases tk <;> rcases lq with⟨c,rfl⟩|⟨cs,rfl⟩ <;> (try (cases c)) <;> simp[isKey,x9]at Cv
        all_goals first
         |(simp only[aw]at LR;simp only[PRel];exact LR;done)
         |skip
        rename_i xs
        simp only[aw]at LR
        obtain⟨arr,e5,l5,s5⟩:=LR
        simp only[PRel]
        refine⟨arr,e5, ?_,s5⟩
        have: ∀(cs:List CK) (xs:List T) (vs:List Value),jX cs xs=true→aA β st.gens w M' xs vs→PList w M' xs vs:=by
         intro cs
         induction cs with
         |nil=>intro xs vs hc hv;cases xs <;> simp[jX]at hc;simpa only[aA,PList]using hv
         |cons c cs ih=>
          intro xs vs hc hv
          cases xs with
          |nil=>simp[jX]at hc
          |cons x xs=>
           simp only[jX,Bool.and_eq_true]at hc
           simp only[aA]at hv;simp only[PList]
           obtain⟨u,us,rfl,w1,w2⟩:=hv
           refine⟨u,us,rfl, ?_,ih xs us hc.2 w2⟩
           cases c <;> cases x <;> simp[x9]at hc <;> simp only[aw]at w1 <;> simp only[PRel] <;> exact w1
        exact this _ _ _ Cv l5
       have run: ∀(res:Option (Nat×Value)) (Aw:Array MapEntry) (kD:Nat),(Instr.findKey kt (a.eval k) es.toList).run P w= .ok res w→
         (match res with
           |some (i,_)=>do
            let key ←Instr.keyThatStays (((es[i]?).map (fun e:MapEntry=>e.key)).getD (a.eval k)) (a.eval k)
            setObj (β sp kk ge).blk (.map (es.modify i fun e=>{e with key,val:=a.eval x}) clock)
           |none=>setObj (β sp kk ge).blk (.map (es.push {key:=a.eval k,val:=a.eval x,born:=clock}) (clock+1))).run P w= .ok () (setBlock w (β sp kk ge).blk (.map Aw kD))→
         (execOp a.eval o).run P w= .ok .skip (setBlock w (β sp kk ge).blk (.map Aw kD)):=by
        intro res Aw kD pd Ax
        have:(Instr.mapUpdate t (.map (some (β sp kk ge).blk)) (a.eval k) (a.eval x)).run P w= .ok () (setBlock w (β sp kk ge).blk (.map Aw kD)):=by
         unfold Instr.mapUpdate
         simp only[Sem.run_bind,run_underlying ht,Result.andThen_ok]
         have tm:(getObj (β sp kk ge).blk).run P w= .ok (.map es clock) w:=by simp[getObj,Sem.run,e2]
         simp only[tm,Result.andThen_ok,Sem.run_bind,LP,pd]
         cases res with
         |none=>exact Ax
         |some p=>exact Ax
        simp[execOp,ho,vm.2,this]
       have Ax: ∀(Aw:Array MapEntry) (c':Nat),(setObj (β sp kk ge).blk (.map Aw c')).run P w= .ok () (setBlock w (β sp kk ge).blk (.map Aw c')):=by
        intro Aw c';simp[setObj,Sem.run,e2,setBlock]
       unfold mO at jY
       split at jY
       ·rename_i i hf
        simp at jY;subst jY
        obtain⟨res,r1,e,r2,r3⟩:=mT (P:=P) UZ LR es.toList ks _ e3 hf
        obtain⟨kx,kx1,W9⟩:=Av hf
        obtain⟨kcv,ZP,kc2⟩:=e3.get kx1
        rw[List.getElem?_map,r2]at ZP
        simp at ZP
        have hsb:=yi (β:=β) (st:=st) lq LR (PRel.toV β st.gens _ _ kc2) W9 9999
        have hei:es[i]? =some e:=by simpa using r2
        simp only[Nat.zero_add]at r3
        have hkt:(Instr.keyThatStays (((es[i]?).map (fun e:MapEntry=>e.key)).getD (a.eval k)) (a.eval k)).run P w= .ok (a.eval k) w:=by
         rw[hei];simp only[Option.map_some,Option.getD_some,ZP]
         unfold Instr.keyThatStays
         rw[if_pos hsb];rfl
        obtain⟨W6,SW⟩:=Re q1 MA (es.modify i fun e=>{e with key:=a.eval k,val:=a.eval x}) clock (MapKept.stamped_modify sy i _ (fun _ _=>rfl) (fun e' _ B2=>by
         have hh:e'=e:=by rw[hei]at B2;exact(Option.some.inj B2).symm
         subst hh
         exact(I5 lq LR (PRel.toV β st.gens _ _ kc2) W9).trans ZP.symm)) (ks.set i (st.rho k')) (vs.set i t') (by
         have:=PList.set i e3 kp
         have e5:(es.modify i fun e=>{e with key:=a.eval k,val:=a.eval x}).toList.map (·.key)=(es.toList.map (·.key)).set i (a.eval k):=by
          apply List.ext_getElem?;intro j
          rw[Array.toList_modify,List.getElem?_map,List.getElem?_modify,List.getElem?_set,List.getElem?_map]
          by_cases hj:i=j
          ·subst hj;rw[r2];simp;exact(List.getElem?_eq_some_iff.1 r2).1
          ·simp[hj]
         rw[e5];exact this) (by
         have:=PList.set i e4 ZN
         have e5:(es.modify i fun e=>{e with key:=a.eval k,val:=a.eval x}).toList.map (·.val)=(es.toList.map (·.val)).set i (a.eval x):=by
          apply List.ext_getElem?;intro j
          rw[Array.toList_modify,List.getElem?_map,List.getElem?_modify,List.getElem?_set,List.getElem?_map]
          by_cases hj:i=j
          ·subst hj;rw[r2];simp;exact(List.getElem?_eq_some_iff.1 r2).1
          ·simp[hj]
         rw[e5];exact this)
        refine⟨.skip,undef,_,β,M',run res _ clock r1 ?_,.inr ⟨rfl,rfl⟩,by rw[du];exact W6,by rw[du];exact(Tr.fz q2 q3).trans SW (Nat.le_refl _),by rw[eS];exact Nat.le_refl _,by simp[aw,bA,undef,aA]⟩
        subst r3
        simp only[Sem.run_bind,hkt,Result.andThen_ok]
        exact Ax _ _
       ·rename_i hf
        simp at jY;subst jY
        obtain⟨res,r1,r2⟩:=mT (P:=P) UZ LR es.toList ks _ e3 hf
        have:res=none:=r2
        subst this
        obtain⟨W6,SW⟩:=Re q1 MA (es.push {key:=a.eval k,val:=a.eval x,born:=clock}) (clock+1) (MapKept.stamped_push sy (fun y hy B2=>by
         obtain⟨j,hj⟩:=List.getElem?_of_mem hy
         obtain⟨kx,kx1,W9⟩:=e3.getV (j:=j) (v:=y.key) (by rw[List.getElem?_map,hj];rfl)
         rw[B2]at W9
         exact FW lq LR (PRel.toV β st.gens _ _ W9) (uI hf _ (List.mem_of_getElem? kx1)))) (ks++ [st.rho k']) (vs++ [t']) (by
         simp only[Array.toList_push,List.map_append,List.map_cons,List.map_nil]
         exact PList.append e3 (by simp only[PList];exact⟨_,_,rfl,kp,rfl⟩)) (by
         simp only[Array.toList_push,List.map_append,List.map_cons,List.map_nil]
         exact PList.append e4 (by simp only[PList];exact⟨_,_,rfl,ZN,rfl⟩))
        exact⟨.skip,undef,_,β,M',run none _ (clock+1) r1 (Ax _ _),.inr ⟨rfl,rfl⟩,by rw[du];exact W6,by rw[du];exact(Tr.fz q2 q3).trans SW (Nat.le_refl _),by rw[eS];exact Nat.le_refl _,by simp[aw,bA,undef,aA]⟩
       ·cases jY
     ·simp[Q.run]at hq
   ·simp[Q.run]at hq
  ·simp[Q.run]at hq
 ·simp[Q.run]at hq
end
end Go.Ev
namespace Go.Ev
open Go
theorem wY(rN:Nat): ∀(r c:Nat),c≤rN+(rN+768)/4→Builtin.growBy rN r c≤rN+(rN+768)/4
 |0,c,h=>by simpa[Builtin.growBy]using h
 |r+1,c,h=>by
  simp only[Builtin.growBy]
  split
  ·exact h
  ·exact wY rN r _ (by omega)
theorem MB(tn Mw:Nat)(h:Mw<tn):Builtin.nextslicecap tn Mw≤2*tn+192:=by
 unfold Builtin.nextslicecap
 split
 ·omega
 ·split
  ·omega
  ·have:=wY tn 4 Mw (by omega)
   omega
theorem FX{tn Mw bytes:Nat}(h:Mw<tn)(hb:tn*bytes≤1099511627776)(h0:bytes≠0):Builtin.nextslicecap tn Mw*bytes≤281474976710656:=by
 have h1:=Nat.mul_le_mul_right bytes (MB tn Mw h)
 have h2:bytes≤tn*bytes:=Nat.le_mul_of_pos_left bytes (by omega)
 have h3:(2*tn+192)*bytes=2*(tn*bytes)+192*bytes:=by rw[Nat.add_mul,Nat.mul_assoc]
 omega
section
variable{P:Program}{B:eu}{st:St}{a:Act}{w:World}{β:bj}{M:aM}{o:Oper}{v:T}{ups:List Up}
theorem wk(h:bz B st w β M){sz nx n:Nat}{x:T}{cx:Value}{xs:List T}(vx:aw β st.gens w M x cx)(hq:(dF sz x).run st.get nx=some (n,xs)):
  ∃news:List Value,(∀w':World,w'.heap=w.heap→(Builtin.lenOf cx).run P w'= .ok n w'∧(Builtin.firstCells sz n cx).run P w'= .ok news.toArray w')∧PList w M xs news∧xs.all single=true∧xs.length=n*sz:=by
 unfold dF at hq
 split at hq
 ·simp[Q.run]at hq;obtain⟨rfl,rfl⟩:=hq
  simp only[aw]at vx;subst vx
  exact⟨[],fun w' _=>⟨by simp[Builtin.lenOf],by simp[Builtin.firstCells]⟩,by simp[PList],rfl,by simp⟩
 ·rename_i cs len ex
  split at hq
  ·rename_i hl
   simp[Q.run]at hq;obtain⟨rfl,rfl⟩:=hq
   simp only[aw,PRel]at vx
   obtain⟨blk,off,cap,sp,rfl,h1,h2,h5,h3⟩:=vx
   obtain⟨vs,e1,e2,e3,e4⟩:=aY.load (P:=P) h3
   refine⟨vs,fun w' hw=>⟨by simp[Builtin.lenOf], ?_⟩,e3,e4,hl⟩
   have:=run_loadCells_list (P:=P) w' ⟨blk,off,sp⟩ vs (fun j u hu=>by
    rcases h5 with h5|h5
    ·subst h5
     rw[eN]
     have:=e2 j u hu
     unfold World.cell? at this ⊢; rw[hw];exact this
    ·exfalso
     have hz:len=0:=by omega
     have h0:vs= []:=List.length_eq_zero_iff.1 (by rw[e1,hl,hz,Nat.zero_mul])
     subst h0;simp at hu)
   rw[e1,hl]at this
   simp[Builtin.firstCells,this]
  ·simp[Q.run]at hq
 ·rename_i sp k g off len mb
  split at hq
  ·rename_i oI
   subst oI
   simp only[Q.run]at hq
   split at hq
   ·rename_i hg
    have ye:=h.obj sp k
    generalize he:st.get sp k=en at*
    obtain⟨ge,ob⟩:=en
    dsimp only at hg;subst hg
    cases ob with
    |none=>simp[Q.run]at hq
    |map _ _ _=>simp[Q.run]at hq
    |cells cs wm bx=>
     cases bx with
     |true=>simp[Q.run]at hq
     |false=>
      dsimp only at hq
      split at hq
      ·rename_i hle
       simp[Q.run]at hq;obtain⟨rfl,rfl⟩:=hq
       unfold dO at ye
       obtain⟨c,el,fz,h1,h2,h3,h4,h5,h6,h7,h8⟩:=ye
       dsimp only at h1 h2 h3 h5
       simp only[aw]at vx
       obtain⟨q1,cap,rfl,q2,q3⟩:=vx
       have Ef:=PList.take (len*mb) (PList.drop off h5)
       rw[List.drop_take,List.drop_drop,List.take_take]at Ef
       have acr:min (len*mb) (cs.length-off)=len*mb:=by omega
       rw[acr]at Ef
       have hlen:((cs.drop off).take (len*mb)).length=len*mb:=by simp;omega
       refine⟨(c.toList.drop ((β sp k ge).off+off)).take (len*mb),fun w' hw=>⟨by simp[Builtin.lenOf], ?_⟩,Ef,gj h7 _ _,hlen⟩
       have zB:=PList.length _ _ Ef
       rw[hlen]at zB
       have:=run_loadCells_list (P:=P) w' ⟨(β sp k ge).blk,(β sp k ge).off+off,none⟩ ((c.toList.drop ((β sp k ge).off+off)).take (len*mb)) (fun j u hu=>by
        rw[eN]
        rw[List.getElem?_take]at hu
        split at hu
        ·rw[List.getElem?_drop]at hu
         unfold World.cell?;rw[hw,h1];simpa using hu
        ·cases hu)
       rw[←zB]at this
       simp[Builtin.firstCells,this]
      ·simp[Q.run]at hq
   ·simp[Q.run]at hq
  ·simp[Q.run]at hq
 ·rename_i l
  split at hq
  ·rename_i oI
   subst oI
   simp[Q.run]at hq;obtain⟨rfl,rfl⟩:=hq
   obtain⟨bs,rfl,rfl⟩:=vx.str
   refine⟨bs.data.toList.map fun b=> .int .u8 b.toNat,fun w' _=>⟨by simp[Builtin.lenOf,eU], ?_⟩, ?_, ?_,by simp⟩
   ·have e1:(bs.extract 0 bs.size).data=bs.data:=by
     apply Array.ext'
     rw[ByteArray.data_extract,Array.toList_extract,List.extract_eq_take_drop]
     rw[List.drop_zero]
     exact List.take_of_length_le (by show bs.data.toList.length≤bs.data.size-0;simp)
    simp only[Builtin.firstCells,eU,e1,Sem.run_pure]
    congr 1
    apply Array.ext';simp
   ·unfold cR
    rw[List.map_map]
    generalize bs.data.toList=l
    induction l with
    |nil=>simp[PList]
    |cons b l ih=>simp only[List.map_cons,PList];exact⟨_,_,rfl,by simp[PRel],ih⟩
   ·rw[List.all_eq_true];intro x hx;simp at hx;obtain⟨_,_,rfl⟩:=hx;rfl
  ·simp[Q.run]at hq
 ·simp[Q.run]at hq
theorem Ay{t u ty e:TypeId}{ud:TypeDesc}{i:TypeInfo}{z:Value}(ht:P.underlying t=some (.slice e))(hu:P.underlying u=some ud)(LS:ud= .string∨ ∃e',ud= .slice e')(hi:P.info? e=some i)(hz:i.zero=some z)
  {base:Option Addr} {dC gk n:Nat} {cx:Value} {qE news:List Value} (hn:(Builtin.lenOf cx).run P w= .ok n w) (wZ:(Builtin.firstCells i.size n cx).run P w.drew= .ok news.toArray w.drew) (holds:(Builtin.firstCells i.size dC (.slice base dC gk)).run P w.drew= .ok qE.toArray w.drew)
  (hg:gk<dC+n) (hb:(dC+n)*i.bytes≤1099511627776) (h0:i.bytes≠0):
  (Builtin.append_ #[t,u] ty #[.slice base dC gk,cx]).run P w= .ok (.slice (some ⟨w.heap.size,0,none⟩) (dC+n) (grownCap w (dC+n) gk e))
     (w.drew.alloc (.cells (qE.toArray++news.toArray++Builtin.zeroCells z.cells (grownCap w (dC+n) gk e-(dC+n))) e)):=by
 have hn': ¬(dC+n≤gk):=by omega
 have eo:dC+n≤(dC+n)*i.bytes:=Nat.le_mul_of_pos_right _ (by omega)
 have yj: ¬(9223372036854775807<((dC:Int)+(n:Int))):=by omega
 have Em: ¬(281474976710656<Builtin.nextslicecap (dC+n) gk*i.bytes):=by have:=FX hg hb h0;omega
 rcases LS with rfl|⟨e',rfl⟩ <;>
 ·simp[Builtin.append_,run_underlying ht,run_underlying hu,sizeOf,typeInfo,zeroValue,hi,hz,hn,hn',yj,Em,Question.forced,wZ,holds,newRow,grownCap]
  congr 2
  apply Array.ext'
  simp[List.append_assoc]
theorem sI{t u ty e:TypeId}{ud:TypeDesc}{i:TypeInfo}(ht:P.underlying t=some (.slice e))(hu:P.underlying u=some ud)(LS:ud= .string∨ ∃e',ud= .slice e')(hi:P.info? e=some i)
  {base:Option Addr} {dC gk n:Nat} {cx:Value} {news:List Value} {w':World} (hn:(Builtin.lenOf cx).run P w= .ok n w) (wZ:(Builtin.firstCells i.size n cx).run P w= .ok news.toArray w)
  (ff:dC+n≤gk) (sy:match base with|some ad=>(storeCells (ad.add (dC*i.size)) news).run P w= .ok () w'|none=>w'=w):
  (Builtin.append_ #[t,u] ty #[.slice base dC gk,cx]).run P w= .ok (.slice base (dC+n) gk) w':=by
 rcases LS with rfl|⟨e',rfl⟩ <;>
 ·cases base with
  |none=>
   dsimp only at sy;subst sy
   simp[Builtin.append_,run_underlying ht,run_underlying hu,sizeOf,typeInfo,hi,hn,ff,wZ]
  |some ad=>
   dsimp only at sy
   simp[Builtin.append_,run_underlying ht,run_underlying hu,sizeOf,typeInfo,hi,hn,ff,wZ,sy]
theorem MC{bx:Bool}(h:bz B st w β M)(el:TypeId)(c:Array Value)(cs:List T)(wm:Nat)(sp:Sp)(k g:Nat)(hg:st.gens sp k<g)
  (hl:PList w M cs (c.toList.take cs.length)) (hs:cs.all single=true) (hle:cs.length≤c.size) (Cy:wm≤cs.length):
  bz B (st.up (sp,k,⟨g,.cells cs wm bx⟩)) (w.alloc (.cells c el)) (gh β sp k g ⟨w.heap.size,0,c.size⟩) (fun b x=>M b x∨b=w.heap.size)∧
  Tr st w β M (st.up (sp,k,⟨g,.cells cs wm bx⟩)) (w.alloc (.cells c el)) (gh β sp k g ⟨w.heap.size,0,c.size⟩) (fun b x=>M b x∨b=w.heap.size):=by
 refine IV h sp k g hg (.cells c el) c.size (.cells cs wm bx) ?_
 unfold dO
 simp only[cD]
 refine⟨c,el,(0,0),by rw[heap_alloc,if_pos rfl],by omega,hle,rfl, ?_,fun j _ _=>Or.inr (by trivial),hs,Cy⟩
 simp only[List.drop_zero]
 exact jl.ofP (PList.mono (mQ w M _) _ _ hl)
variable(cI:jS β st.gens w M st.rho a.eval)(h:bz B st w β M)
include cI h
theorem SX{d:Nat}{sh nm:Bool}{c:Call}{t u e:TypeId}{ud:TypeDesc}{i:TypeInfo}{z:Value}{s x:Operand}{s' x':bq}(ho:o.op= .call c)(hb:c.callee= .builtin .append)(je:c.argTypes.toList= [t,u])(has:c.args.toList= [s,x])
  (ht:P.underlying t=some (.slice e)) (hu:P.underlying u=some ud) (LS:ud= .string∨ ∃e',ud= .slice e') (hi:P.info? e=some i) (hz:i.zero=some z) (oI:i.size=z.cells.size) (h0:i.size≠0) (hby:i.bytes≠0) (hs:dY s=some s') (hx:dY x=some x')
  (hq:(bT d st.rho (.app i.size i.bytes s' x' sh nm)).run st.get st.sh.length=some (.val v ups)):dG P B st a w β M o v ups:=by
 have vs:=cI s s' hs
 have vx:=cI x x' hx
 have cN:c.argTypes= #[t,u]:=by apply Array.ext';simp[je]
 have exec: ∀cv w',(Builtin.append_ #[t,u] o.type #[a.eval s,a.eval x]).run P w= .ok cv w'→(execOp a.eval o).run P w= .ok (.value cv) w':=by
  intro cv w' hr
  rw[dy ho hb,Mp has,cN]
  simp[builtin,hr]
 simp only[bT,qh,Q.run_bind]at hq
 cases jx:(dF i.size (st.rho x')).run st.get st.sh.length with
 |none=>simp[jx]at hq
 |some p=>
  obtain⟨n,xs⟩:=p
  simp only[jx,Option.bind_some]at hq
  obtain⟨news,tp,n1,n2,n3⟩:=wk (P:=P) h vx jx
  have pI:news.length=n*i.size:=by rw[←PList.length _ _ n1,n3]
  by_cases Vo:n=0
  ·rw[if_pos Vo]at hq
   subst Vo
   have wZ:news= []:=by apply List.eq_nil_of_length_eq_zero;simpa using pI
   subst wZ
   have same: ∀base dC gk,a.eval s= .slice base dC gk→dC≤gk→dG P B st a w β M o (st.rho s') []:=by
    intro base dC gk es hle
    refine bk h (cv:= .slice base dC gk) ?_ (by rw[←es];exact vs)
    have:=sI (P:=P) (w:=w) (w':=w) (t:=t) (u:=u) (ty:=o.type) (base:=base) (dC:=dC) (gk:=gk) (cx:=a.eval x) (n:=0) (news:= []) ht hu LS hi (tp w rfl).1 (tp w rfl).2 (by omega) (by cases base <;> simp[storeCells])
    exact exec _ _ (by rw[es];exact this)
   split at hq
   ·rename_i es
    simp[Q.run]at hq;obtain⟨rfl,rfl⟩:=hq
    have mR:=vs;rw[es]at mR;simp only[aw]at mR
    exact same _ _ _ mR (Nat.le_refl _)
   ·rename_i cs len ex es
    simp[Q.run]at hq;obtain⟨rfl,rfl⟩:=hq
    have mR:=vs;rw[es]at mR;simp only[aw,PRel]at mR
    obtain⟨blk,off,cap,sp,e1,e2,_⟩:=mR
    exact same _ _ _ e1 e2
   ·rename_i sp k g off len sz es
    simp[Q.run]at hq;obtain⟨rfl,rfl⟩:=hq
    have mR:=vs;rw[es]at mR;simp only[aw]at mR
    obtain⟨_,cap,e1,e2,_⟩:=mR
    exact same _ _ _ e1 e2
   ·simp[Q.run]at hq
  ·rw[if_neg Vo]at hq
   have LU:z.cells.size≠0:=by omega
   have grow: ∀(bx:Bool) (base:Option Addr) (dC gk:Nat) (qE:List Value) (os:List T) (sp:Sp) (k g wm:Nat),a.eval s= .slice base dC gk→gk<dC+n→(dC+n)*i.bytes≤1099511627776→PList w M os qE→os.all single=true→os.length=dC*i.size→
     (Builtin.firstCells i.size dC (.slice base dC gk)).run P w.drew= .ok qE.toArray w.drew→st.gens sp k<g→wm≤os.length→dG P B st a w β M o (.isl sp k g 0 (dC+n) i.size) [(sp,k,⟨g,.cells (os++xs) wm bx⟩)]:=by
    intro bx base dC gk qE os sp k g wm es eo ff ho1 ho2 ho3 hfc hg Cy
    have hr:=Ay (P:=P) (w:=w) (t:=t) (u:=u) (ty:=o.type) (base:=base) (dC:=dC) (gk:=gk) (cx:=a.eval x) (n:=n) (qE:=qE) (news:=news) ht hu LS hi hz (tp w rfl).1 (tp w.drew rfl).2 hfc eo ff hby
    obtain⟨hd1,hd2⟩:=D7 h (w.drawn+1)
    have hol:qE.length=dC*i.size:=by rw[←PList.length _ _ ho1,ho3]
    have Ao:=grownCap_ge w (dC+n) gk e
    have jo:(qE.toArray++news.toArray++Builtin.zeroCells z.cells (grownCap w (dC+n) gk e-(dC+n))).size=grownCap w (dC+n) gk e*i.size:=by
     rw[Array.size_append,Array.size_append,size_zeroCells]
     simp only[List.size_toArray,hol,pI,←oI]
     rw[←Nat.add_mul,←Nat.add_mul];congr 1;omega
    have hlen:(os++xs).length=qE.length+news.length:=by simp[ho3,n3,hol,pI]
    obtain⟨r1,r2⟩:=MC (bx:=bx) hd1 e (qE.toArray++news.toArray++Builtin.zeroCells z.cells (grownCap w (dC+n) gk e-(dC+n))) (os++xs) wm sp k g hg (by
     have:(qE.toArray++news.toArray++Builtin.zeroCells z.cells (grownCap w (dC+n) gk e-(dC+n))).toList.take (os++xs).length=qE++news:=by
      rw[hlen]
      simp only[Array.toList_append,List.toList_toArray]
      rw[List.take_append_of_le_length (by simp)]
      exact List.take_of_length_le (by simp)
     rw[this]
     exact PList.mono hd2.keep _ _ (PList.append ho1 n1)) (by simp only[List.all_append,Bool.and_eq_true];exact⟨ho2,n2⟩) (by
     rw[jo,hlen,hol,pI,←Nat.add_mul];exact Nat.mul_le_mul_right _ Ao) (by simp;omega)
    refine⟨_,_,_,_,_,exec _ _ (by rw[es];exact hr),.inl rfl,r1,hd2.trans r2 (Nat.le_refl _), ?_, ?_⟩
    ·show w.heap.size≤(w.heap.push _).size;simp
    ·simp only[aw]
     refine⟨by simp[St.ups,ef],grownCap w (dC+n) gk e, ?_,Ao, ?_⟩
     ·rw[cD]
     ·rw[cD,jo];exact Nat.le_of_eq (Nat.zero_add _)
   split at hq
   ·rename_i es
    rw[es]at vs;simp only[aw]at vs
    split at hq
    ·rename_i ff
     unfold roomy at ff
     obtain⟨sp,k,g,rfl,rfl,hg,_⟩:=iQ hq
     have:=grow nm none 0 0 [] [] sp k g 0 vs (by omega) (by simpa using ff) (by simp[PList]) rfl (by simp) (by simp[Builtin.firstCells]) hg (Nat.zero_le _)
     simpa using this
    ·simp[Q.run]at hq
   ·rename_i cs len es
    rw[es]at vs;simp only[aw,PRel]at vs
    obtain⟨blk,off,cap,cQ,e1,e2,e3,e5,e4⟩:=vs
    have:=e3 trivial;subst this
    split at hq
    ·rename_i ff
     simp at ff
     unfold roomy at ff
     obtain⟨sp,k,g,rfl,rfl,hg,_⟩:=iQ hq
     obtain⟨ol,f1,f2,f3,f4⟩:=aY.load (P:=P) e4
     refine grow false _ _ _ ol cs sp k g 0 e1 (by omega) ff.2 f3 f4 ff.1 ?_ hg (Nat.zero_le _)
     have:=run_loadCells_list (P:=P) w.drew ⟨blk,off,cQ⟩ ol (fun j u hu=>by
      rcases e5 with e5|e5
      ·subst e5
       rw[eN];have:=f2 j u hu;unfold World.cell? at this ⊢; exact this
      ·exfalso
       have h0:ol= []:=List.length_eq_zero_iff.1 (by rw[f1,ff.1,e5,Nat.zero_mul])
       subst h0;simp at hu)
     rw[f1,ff.1]at this
     simp[Builtin.firstCells,this]
    ·simp[Q.run]at hq
   ·rename_i sp k g off len sz es
    rw[es]at vs;simp only[aw]at vs
    obtain⟨q1,cap,e1,e2,e3⟩:=vs
    split at hq
    ·rename_i ff
     simp at ff
     unfold roomy at ff
     obtain⟨⟨rfl,rfl⟩,ff⟩:=ff
     simp only[Q.run]at hq
     split at hq
     ·rename_i hg
      have ye:=h.obj sp k
      generalize he:st.get sp k=en at*
      obtain⟨ge,ob⟩:=en
      dsimp only at hg;subst hg
      cases ob with
      |none=>simp[Q.run]at hq
      |map _ _ _=>simp[Q.run]at hq
      |cells cs wm bx=>
       cases bx with
       |true=>simp[Q.run]at hq
       |false=>
        dsimp only at hq
        split at hq
        ·rename_i hlen
         simp[Q.run]at hq;obtain⟨rfl,rfl⟩:=hq
         unfold dO at ye
         obtain⟨cc,el,fz,h1,h2,h3,h4,h5,h6,h7,h8⟩:=ye
         dsimp only at h1 h2 h3 h4 h5 h6
         subst h4
         have En:st.gens sp k=ge:=by show(st.get sp k).g=ge;rw[he]
         by_cases SY:len+n≤cap
         ·have Xa:(len+n)*i.size≤cap*i.size:=Nat.mul_le_mul_right _ SY
          rw[Nat.add_mul]at Xa
          have SV:=aA.one (PList.toV β st.gens _ _ n1) n2
          have sy:=run_storeCells_at P (β sp k ge).blk ((β sp k ge).off+len*i.size) el news 0 cc w h1 (by omega) SV
          rw[ny h1]at sy
          simp only[Nat.add_zero]at sy
          rw[Cx _ _ _ (by simp;omega)]at sy
          have hr:=sI (P:=P) (w:=w) (t:=t) (u:=u) (ty:=o.type) (base:=some ⟨(β sp k ge).blk,(β sp k ge).off+0,none⟩) (dC:=len) (gk:=cap) (cx:=a.eval x) (n:=n) (news:=news) ht hu LS hi (tp w rfl).1 (tp w rfl).2 SY (by
           dsimp only;rw[eN];simpa using sy)
          have key:=At h he (ge+1) (Nat.le_succ _) h1 (len*i.size) news (cs++xs) (by omega) (by omega) (by simp) (by simp[n3];omega) (by simp only[List.all_append,Bool.and_eq_true];exact⟨h7,n2⟩) (by
           show PList w M _ _
           have h5:PList w M cs _:=h5
           have:(splice (cc.toList.drop (β sp k ge).off) (len*i.size) news).take (cs++xs).length=(cc.toList.drop (β sp k ge).off).take cs.length++news:=by
            rw[←Cx _ _ _ (by simp;omega),hlen,List.take_append_of_le_length (by simp[n3,pI];omega)]
            exact List.take_of_length_le (by simp[n3,pI];omega)
           rw[this]
           exact PList.append h5 n1)
          refine⟨_,_,_,_,_,exec _ _ (by rw[e1];exact hr),.inl rfl,key.1,key.2,by rw[eS];exact Nat.le_refl _, ?_⟩
          simp only[aw]
          refine⟨by simp[St.ups,ef],cap,by rw[cD],SY,by rw[cD];exact e3⟩
         ·have Ef:PList w M cs ((cc.toList.drop (β sp k ge).off).take cs.length):=h5
          refine grow false _ len cap ((cc.toList.drop (β sp k ge).off).take cs.length) cs sp k (ge+1) wm e1 (by omega) ff Ef h7 hlen.symm ?_ (by rw[En];omega) h8
          have zB:=PList.length _ _ Ef
          have:=run_loadCells_list (P:=P) w.drew ⟨(β sp k ge).blk,(β sp k ge).off+0,none⟩ ((cc.toList.drop (β sp k ge).off).take cs.length) (fun j u hu=>by
           rw[eN]
           rw[List.getElem?_take]at hu
           split at hu
           ·rw[List.getElem?_drop]at hu
            unfold World.cell?
            show(match w.heap[(β sp k ge).blk]? with|some (.cells c _ _)=>if(none:Option Nat).isSome then none else c[(β sp k ge).off+0+j]? |_=>none)=some u
            rw[h1];simpa using hu
           ·cases hu)
          rw[←zB]at this
          simp only[Builtin.firstCells]
          rw[hlen]
          exact this
        ·simp[Q.run]at hq
     ·simp[Q.run]at hq
    ·simp[Q.run]at hq
   ·simp[Q.run]at hq
end
end Go.Ev
namespace Go.Ev
open Go
section
variable{P:Program}{B:eu}{st:St}{a:Act}{w:World}{β:bj}{M:aM}{o:Oper}{v:T}{ups:List Up}
theorem kE{x:Option T}{h:Sp→Nat→aB}{nx:Nat}(hq:(Ev.val x).run h nx=some (.val v ups)):x=some v∧ups= []:=by
 cases x with
 |none=>simp[Ev.val,Q.run]at hq
 |some y=>simp[Ev.val,Q.run]at hq;obtain⟨rfl,rfl⟩:=hq;exact⟨rfl,rfl⟩
theorem MD(cI:jS β st.gens w M st.rho a.eval)(h:bz B st w β M){c:Call}(ho:o.op= .call c){sh:Nat}{Az:nu}{d:Nat}(hc:mf P sh c=some Az)
  (hq:(bT d st.rho Az).run st.get st.sh.length=some (.val v ups)):dG P B st a w β M o v ups:=by
 unfold mf at hc
 split at hc
 ·simp only[Option.map_eq_some_iff]at hc
  obtain⟨as,_,rfl⟩:=hc
  simp[bT,Q.run]at hq
 ·split at hc
  ·simp at hc;subst hc
   simp[bT,Q.run]at hq
  ·cases hc
 ·rename_i hb
  split at hc
  ·rename_i t x h1 h2
   split at hc
   ·rename_i y h3 h4;simp at hc;subst hc;exact Mq cI h ho hb h1 h2 h3 h4 hq
   ·rename_i e y h3 h4;simp at hc;subst hc;exact Mr cI h ho hb h1 h2 h3 h4 hq
   ·rename_i e e' y h3 h4;simp at hc;subst hc;exact Ms cI h ho hb h1 h2 h3 h4 hq
   ·rename_i n e y h3 h4;simp at hc;subst hc
    simp[bT,Q.run]at hq;obtain⟨rfl,rfl⟩:=hq
    exact Mt h ho hb h1 h2 h3
   ·cases hc
  ·cases hc
 ·rename_i hb
  split at hc
  ·rename_i t u x y h1 h2
   split at hc
   ·rename_i e ud x' y' h3 h4 h5 h6
    have fin: ∀(LS:ud= .string∨ ∃e',ud= .slice e'),(match P.info? e with
     |some i=>(match i.zero with
      |some z=>if i.size=z.cells.size&&i.size != 0&&i.bytes != 0 then some (nu.app i.size i.bytes x' y' (sh==1) (sh==2))else none
      |none=>none)
     |none=>none)=some Az→dG P B st a w β M o v ups:=by
     intro LS hc
     split at hc
     ·rename_i i hi
      split at hc
      ·rename_i z hz
       split at hc
       ·rename_i fg
        simp at fg hc;subst hc
        exact SX cI h ho hb h1 h2 h3 h4 LS hi hz fg.1.1 fg.1.2 fg.2 h5 h6 hq
       ·cases hc
      ·cases hc
     ·cases hc
    split at hc
    ·rename_i e';exact fin (.inr ⟨e',rfl⟩) hc
    ·exact fin (.inl rfl) hc
    ·cases hc
   ·cases hc
  ·cases hc
 ·rename_i hb
  simp only[Option.map_eq_some_iff]at hc
  obtain⟨as,h1,rfl⟩:=hc
  exact Ra (isMax:=false) cI h ho hb h1 hq
 ·rename_i hb
  simp only[Option.map_eq_some_iff]at hc
  obtain⟨as,h1,rfl⟩:=hc
  exact Ra (isMax:=true) cI h ho hb h1 hq
 ·cases hc
theorem Xb(cI:jS β st.gens w M st.rho a.eval)(h:bz B st w β M){sh:Nat}{Az:nu}{d:Nat}(hc:cJ P sh o.op=some Az)
  (hq:(bT d st.rho Az).run st.get st.sh.length=some (.val v ups)):dG P B st a w β M o v ups:=by
 cases fF:o.op with
 |move x=>
  rw[fF]at hc;simp only[cJ,Option.map_eq_some_iff]at hc
  obtain⟨y,h1,rfl⟩:=hc
  simp[bT,Q.run]at hq;obtain⟨rfl,rfl⟩:=hq
  exact Q9 cI h (.inl fF) h1
 |assign x=>
  rw[fF]at hc;simp only[cJ,Option.map_eq_some_iff]at hc
  obtain⟨y,h1,rfl⟩:=hc
  simp[bT,Q.run]at hq;obtain⟨rfl,rfl⟩:=hq
  exact Q9 cI h (.inr fF) h1
 |pick c x y=>
  rw[fF]at hc;simp only[cJ]at hc
  split at hc
  ·rename_i c' x' y' h1 h2 h3
   simp at hc;subst hc
   simp only[bT]at hq
   split at hq <;> simp[Q.run]at hq
   ·rename_i e;obtain⟨rfl,rfl⟩:=hq;exact Ed (bb:=true) cI h fF h1 h2 h3 e
   ·rename_i e;obtain⟨rfl,rfl⟩:=hq;exact Ed (bb:=false) cI h fF h1 h2 h3 e
  ·cases hc
 |alloc t=>
  rw[fF]at hc;simp only[cJ]at hc
  split at hc
  ·rename_i z hz
   split at hc
   ·rename_i hn;simp at hc;subst hc;exact I2 h fF hz hn hq
   ·cases hc
  ·cases hc
 |box t x=>
  rw[fF]at hc;simp only[cJ,Option.map_eq_some_iff]at hc
  obtain⟨y,h1,rfl⟩:=hc
  exact SO cI h fF h1 hq
 |build t ps=>
  rw[fF]at hc;simp only[cJ]at hc
  split at hc
  ·rename_i z fs hz hu
   split at hc
   ·rename_i fV hp
    split at hc
    ·rename_i hn
     simp only[Option.map_eq_some_iff]at hc
     obtain⟨r,h1,rfl⟩:=hc
     exact Aq cI h fF hz (.inl ⟨fs,fV,hu,hp,h1⟩) hn hq
    ·cases hc
   ·cases hc
  ·rename_i z n e hz hu
   split at hc
   ·rename_i sz hs
    split at hc
    ·rename_i hn
     simp only[Option.map_eq_some_iff]at hc
     obtain⟨r,h1,rfl⟩:=hc
     exact Aq cI h fF hz (.inr ⟨n,e,sz,hu,hs,h1⟩) hn hq
    ·cases hc
   ·cases hc
  ·cases hc
 |buildSlice t len ps=>
  rw[fF]at hc;simp only[cJ]at hc
  split at hc
  ·rename_i e hu
   split at hc
   ·rename_i z n r hz hn hr
    split at hc
    ·rename_i fg
     simp at fg hc;subst hc
     exact SR cI h fF hu hz hn hr fg.1.1.1 fg.1.1.2 fg.1.2 fg.2 hq
    ·cases hc
   ·cases hc
  ·cases hc
 |load t x=>
  rw[fF]at hc;simp only[cJ]at hc
  split at hc
  ·rename_i y n ag h1 h2 h3;simp at hc;subst hc;exact WT cI h fF h1 h2 h3 hq
  ·cases hc
 |store t x y=>
  rw[fF]at hc;simp only[cJ]at hc
  split at hc
  ·rename_i y n ag h1 h2 h3;simp at hc;subst hc;exact W5 cI h fF h1 h2 h3 hq
  ·cases hc
 |nilCheck x=>
  rw[fF]at hc;simp only[cJ,Option.map_eq_some_iff]at hc
  obtain⟨y,h1,rfl⟩:=hc
  exact Sy cI h fF h1 hq
 |binOp op t x y t'=>
  rw[fF]at hc;simp only[cJ]at hc
  split at hc
  ·rename_i x' y' h1 h2
   split at hc
   ·rename_i hk
    simp at hc;subst hc
    obtain⟨e1,rfl⟩:=kE hq
    simp only[Option.map_eq_some_iff]at e1
    obtain⟨r,e2,rfl⟩:=e1
    exact Ej (neg:=false) cI h fF h1 h2 (by have:=nV hk;simp[uw,this]) (by simp) e2
   ·rename_i hk
    simp at hc;subst hc
    obtain⟨e1,rfl⟩:=kE hq
    simp only[Option.map_eq_some_iff]at e1
    obtain⟨r,e2,rfl⟩:=e1
    exact Ej (neg:=true) cI h fF h1 h2 (by have:=nV hk;simp[uw,this]) (by simp) e2
   ·simp at hc;subst hc
    obtain⟨e1,rfl⟩:=kE hq
    exact Sz cI h fF h1 h2 e1
   ·rename_i hk
    simp only[Option.map_eq_some_iff]at hc
    obtain⟨k,h3,rfl⟩:=hc
    obtain⟨e1,rfl⟩:=kE hq
    simp only[Option.map_eq_some_iff]at e1
    obtain⟨r,e2,rfl⟩:=e1
    refine Ej (neg:=false) cI h fF h1 h2 h3 ?_ e2
    have jo:=jm h3
    refine⟨fun e=> ?_,fun e=> ?_⟩ <;> subst e <;> simp only at jo <;> rw[jo]at hk <;> simp at hk
   ·rename_i hk
    simp only[Option.map_eq_some_iff]at hc
    obtain⟨k,h3,rfl⟩:=hc
    obtain⟨e1,rfl⟩:=kE hq
    simp only[Option.map_eq_some_iff]at e1
    obtain⟨r,e2,rfl⟩:=e1
    refine Ej (neg:=true) cI h fF h1 h2 h3 ?_ e2
    have jo:=jm h3
    refine⟨fun e=> ?_,fun e=> ?_⟩ <;> subst e <;> simp only at jo <;> rw[jo]at hk <;> simp at hk
   ·cases hc
  ·cases hc
 |unOp op t x=>
  rw[fF]at hc;simp only[cJ,Option.map_eq_some_iff]at hc
  obtain⟨y,h1,rfl⟩:=hc
  obtain⟨e1,rfl⟩:=kE hq
  exact WR cI h fF h1 e1
 |convert s t x=>
  rw[fF]at hc;simp only[cJ]at hc
  split at hc
  ·rename_i ks k y h1 h2 h3
   simp at hc;subst hc
   simp only[bT]at hq
   split at hq
   ·rename_i k' n e
    simp[Q.run]at hq;obtain⟨rfl,rfl⟩:=hq
    exact SC cI h fF h3 ⟨ks,h1⟩ h2 e
   ·simp[Q.run]at hq
  ·cases hc
 |makeFunc fn first cap=>
  rw[fF]at hc
  cases fn <;> simp only[cJ]at hc <;> try (cases hc;done)
  split at hc
  ·rename_i f as cs h1 h2
   simp at hc;subst hc
   simp[bT,Q.run]at hq;obtain⟨rfl,rfl⟩:=hq
   exact Mm cI h fF h1 h2
  ·cases hc
 |makeMap t r=>
  rw[fF]at hc
  cases r <;> simp only[cJ]at hc
  ·simp at hc;subst hc;exact I3 h fF hq
  ·cases hc
 |makeSlice t l c=>
  rw[fF]at hc;simp only[cJ]at hc
  split at hc
  ·rename_i e hu
   split at hc
   ·rename_i i z y h1 h2 h3
    split at hc
    ·rename_i fg
     simp at fg hc;subst hc
     exact Mu cI h fF hu h1 h2 h3 fg.1.1.2 fg.1.1.1 fg.1.2 fg.2 hq
    ·cases hc
   ·cases hc
  ·cases hc
 |slice t x l hh m=>
  rw[fF]at hc;simp only[cJ]at hc
  split at hc
  ·rename_i y l' h' h1 h2 h3 h4 h5
   simp at hc;subst hc
   have hm:m=none:=by cases m <;> simp[nE]at h5 ⊢
   subst hm
   exact SI cI h fF h2 h3 h4 h1 hq
  ·rename_i e y l' h' m' h1 h2 h3 h4 h5
   split at hc
   ·rename_i n hn
    split at hc
    ·rename_i fg
     simp at fg hc;subst hc
     refine SJ cI h fF h2 h3 h4 h5 h1 hn fg.1 ?_ hq
     intro hm
     rcases fg.2 with e1|e1
     ·cases m with
      |none=>simp at hm
      |some mm=>simp only[nE,Option.map_eq_some_iff]at h5;obtain⟨_,_,rfl⟩:=h5;simp at e1
     ·cases hh with
      |none=>simp[nE]at h4;subst h4;simp at e1
      |some _=>rfl
    ·cases hc
   ·cases hc
  ·cases hc
 |fieldAddr s x f=>
  rw[fF]at hc;simp only[cJ]at hc
  split at hc
  ·rename_i fs y h1 h2
   split at hc
   ·rename_i fd h3
    split at hc
    ·rename_i n h4
     split at hc
     ·rename_i h5;simp at h5 hc;subst hc;exact WU cI h fF h2 h1 h3 h4 h5 hq
     ·cases hc
    ·cases hc
   ·cases hc
  ·cases hc
 |field s x f=>
  rw[fF]at hc;simp only[cJ]at hc
  split at hc
  ·rename_i fs y h1 h2
   split at hc
   ·rename_i fd h3
    split at hc
    ·rename_i n ag h4 h5
     simp at hc;subst hc;exact SE cI h fF h2 h1 h3 h4 h5 hq
    ·cases hc
   ·cases hc
  ·cases hc
 |indexAddr t x j=>
  rw[fF]at hc;simp only[cJ]at hc
  split at hc
  ·rename_i e y j' h1 h2 h3
   split at hc
   ·rename_i n hn
    split at hc
    ·simp at hc;subst hc;exact WV cI h fF h2 h3 h1 hn hq
    ·cases hc
   ·cases hc
  ·rename_i len e y j' h1 h2 h3
   split at hc
   ·rename_i n hn
    split at hc
    ·simp at hc;subst hc;exact SH cI h fF h2 h3 h1 hn hq
    ·cases hc
   ·cases hc
  ·cases hc
 |index t x j=>
  rw[fF]at hc;simp only[cJ]at hc
  split at hc
  ·rename_i y j' h1 h2 h3;simp at hc;subst hc;exact SG cI h fF h2 h3 h1 hq
  ·rename_i len e y j' h1 h2 h3
   split at hc
   ·rename_i n ag hn ha;simp at hc;subst hc;exact SF cI h fF h2 h3 h1 hn ha hq
   ·cases hc
  ·cases hc
 |lookup t m k ok=>
  rw[fF]at hc;simp only[cJ]at hc
  split at hc
  ·rename_i kt et m' k' h1 h2 h3
   split at hc
   ·rename_i ek z h4 h5;simp at hc;subst hc;exact W7 cI h fF h2 h3 h1 h4 h5 hq
   ·cases hc
  ·cases hc
 |mapUpdate t m k x=>
  rw[fF]at hc;simp only[cJ]at hc
  split at hc
  ·rename_i kt et m' k' x' h1 h2 h3 h4
   simp only[Option.map_eq_some_iff]at hc
   obtain⟨ek,h5,rfl⟩:=hc
   exact W8 cI h fF h2 h3 h4 h1 h5 hq
  ·cases hc
 |extract x j=>
  rw[fF]at hc;simp only[cJ,Option.map_eq_some_iff]at hc
  obtain⟨y,h1,rfl⟩:=hc
  simp only[bT]at hq
  split at hq
  ·rename_i vs e
   obtain⟨e1,rfl⟩:=kE hq
   exact SD cI h fF h1 e e1
  ·simp[Q.run]at hq
 |call c=>rw[fF]at hc;simp only[cJ]at hc;exact MD cI h fF hc hq
 |_=>rw[fF]at hc;simp[cJ]at hc
end
end Go.Ev
