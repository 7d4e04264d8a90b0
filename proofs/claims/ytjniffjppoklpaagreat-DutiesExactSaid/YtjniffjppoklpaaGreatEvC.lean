/- A tree evaluator over the model, proved against it (part C): where it answers, the call returns that answer. Conditions: none beyond its theorems' own. -/
import Derived.Test.YtjniffjppoklpaaGreatEvB
import Derived.Laws.Tables
set_option linter.unusedSimpArgs false
set_option linter.unusedVariables false
namespace Go.Ev
open Go
theorem zW{P:Program}{t:TypeId}{z:T}(h:tK P t=some z): ∃i r,P.info? t=some i∧i.zero=some r∧EL r=some z:=by
 unfold tK at h
 cases hi:P.info? t with
 |none=>simp[hi]at h
 |some i=>
  simp only[hi,Option.bind_some]at h
  cases D:i.zero with
  |none=>simp[D]at h
  |some r=>grind
theorem Hv{P:Program}{t:TypeId}{z:T}(h:tK P t=some z)(w:World): ∃r,(zeroValue t).run P w= .ok r w∧ ∀w M,PRel w M z r:=by
 obtain⟨i,r,D,E,F⟩:=zW h
 exact⟨r,by simp[zeroValue,typeInfo,D,E],fun w M=>rO F⟩
theorem uY{β:jf}{G:Sp→Nat→Nat}{w:World}{M:iP}{t:T}{cv:Value}(h:iE β G w M t cv)(r:noTup t=true):iF β G w M (cellsOf t) cv.cells.toList∧(cellsOf t).all single=true:=by
 cases t
 case agg cs=>
  simp only[iE]at h
  obtain⟨a,rfl,D,E⟩:=h
  exact⟨D,E⟩
 case tup cs=>simp[noTup]at r
 case any=>simp[noTup]at r
 all_goals
  have F:=h
  simp only[iE,PRel]at h
  refine⟨?_,rfl⟩
  simp only[cellsOf,iF]
  refine⟨cv,[], ?_,F,rfl⟩
  first
   |(subst h;rfl)
   |(obtain⟨_,rfl,_⟩:=h;rfl)
   |(obtain⟨_,_,rfl,_⟩:=h;rfl)
   |(obtain⟨_,_,_,rfl,_⟩:=h;rfl)
   |(obtain⟨_,_,_,_,rfl,_⟩:=h;rfl)
   |(obtain⟨_,rfl⟩:=h;rfl)
theorem zX{w:World}{M:iP}{t:T}{cv:Value}(h:PRel w M t cv)(r:noTup t=true):PList w M (cellsOf t) cv.cells.toList∧(cellsOf t).all single=true:=by
 cases t
 case agg cs=>
  simp only[PRel]at h
  obtain⟨a,rfl,D,E⟩:=h
  exact⟨D,E⟩
 case tup cs=>simp[noTup]at r
 case any=>simp[noTup]at r
 case isl=>simp only[PRel]at h
 case ptr=>simp only[PRel]at h
 case mp=>simp only[PRel]at h
 all_goals
  have F:=h
  simp only[PRel]at h
  refine⟨?_,rfl⟩
  simp only[cellsOf,PList]
  refine⟨cv,[], ?_,F,rfl⟩
  first
   |(subst h;rfl)
   |(obtain⟨_,rfl,_⟩:=h;rfl)
   |(obtain⟨_,_,rfl,_⟩:=h;rfl)
   |(obtain⟨_,_,_,rfl,_⟩:=h;rfl)
   |(obtain⟨_,_,_,_,rfl,_⟩:=h;rfl)
theorem kK{α:Type}: ∀(cs:List α) (off:Nat) (r:List α),(splice cs off r).length=cs.length
 |cs,0,[]=>by grind [splice]
 | [],0,v::r=>by simp[splice]
 |c::cs,0,v::r=>by simp[splice,kK cs 0 r]
 | [],off+1,r=>by simp[splice]
 |c::cs,off+1,r=>by simp[splice,kK cs off r]
theorem rS{α:Type}: ∀(cs:List α) (off:Nat),splice cs off []=cs
 |cs,0=>by grind [splice]
 | [],off+1=>by simp[splice]
 |c::cs,off+1=>by simp[splice,rS cs off]
theorem CC{α:Type}: ∀(cs:List α) (off:Nat) (v:α) (r:List α),splice (cs.set off v) (off+1) r=splice cs off (v::r)
 | [],off,v,r=>by grind [splice]
 |c::cs,0,v,r=>by simp[splice]
 |c::cs,off+1,v,r=>by simp[splice,CC cs off v r]
theorem mM{α:Type}: ∀(cs:List α) (off:Nat) (r:List α) (j:Nat),(splice cs off r)[j]? =if off≤j∧j<off+r.length∧j<cs.length then r[j-off]? else cs[j]?
 |cs,0,[],j=>by rw[rS];simp
 | [],0,v::r,j=>by simp[splice]
 |c::cs,0,v::r,0=>by simp[splice]
 |c::cs,0,v::r,j+1=>by simp[splice,mM cs 0 r j]
 | [],off+1,r,j=>by simp[splice]
 |c::cs,off+1,r,0=>by simp[splice]
 |c::cs,off+1,r,j+1=>by
  simp only[splice,List.getElem?_cons_succ,mM cs off r j,List.length_cons]
  grind
theorem iF.splice{β:jf}{G:Sp→Nat→Nat}{w:World}{M:iP}: ∀{cs:List T} {D:List Value} {off:Nat} {F:List T} {Ox:List Value},iF β G w M cs D→iF β G w M F Ox→iF β G w M (splice cs off F) (splice D off Ox)
 |cs,D,0,[],Ox,r,E=>by grind [iF,rS]
 | [],D,0,v::F,Ox,r,E=>by grind [iF,Ev.splice]
 |c::cs,D,0,v::F,Ox,r,E=>by
  simp only[iF]at r E
  obtain⟨a,as,rfl,I,H⟩:=r
  obtain⟨u,us,rfl,J,K⟩:=E
  simp only[Ev.splice,iF]
  exact⟨u,_,rfl,J,iF.splice H K⟩
 | [],D,off+1,F,Ox,r,E=>by simp_all[iF,Ev.splice]
 |c::cs,D,off+1,F,Ox,r,E=>by
  simp only[iF]at r
  obtain⟨a,as,rfl,I,H⟩:=r
  simp only[Ev.splice,iF]
  exact⟨a,_,rfl,I,iF.splice H E⟩
theorem PList.splice{w:World}{M:iP}: ∀{cs:List T} {D:List Value} {off:Nat} {F:List T} {Ox:List Value},PList w M cs D→PList w M F Ox→PList w M (splice cs off F) (splice D off Ox)
 |cs,D,0,[],Ox,r,E=>by grind [PList,rS]
 | [],D,0,v::F,Ox,r,E=>by grind [PList,Ev.splice]
 |c::cs,D,0,v::F,Ox,r,E=>by
  simp only[PList]at r E
  obtain⟨a,as,rfl,I,H⟩:=r
  obtain⟨u,us,rfl,J,K⟩:=E
  simp only[Ev.splice,PList]
  exact⟨u,_,rfl,J,PList.splice H K⟩
 | [],D,off+1,F,Ox,r,E=>by simp_all[PList,Ev.splice]
 |c::cs,D,off+1,F,Ox,r,E=>by
  simp only[PList]at r
  obtain⟨a,as,rfl,I,H⟩:=r
  simp only[Ev.splice,PList]
  exact⟨a,_,rfl,I,PList.splice H E⟩
theorem uZ{p:T→Bool}{cs r:List T}{off:Nat}(D:cs.all p=true)(E:r.all p=true):(splice cs off r).all p=true:=by
 grind [List.all_eq_true,mM,List.getElem?_of_mem]
theorem BJ(off:Nat): ∀(D:List Value) (s:Nat) (r:Array Value),((D.zipIdx s).foldl (fun(cs:Array Value) (p:Value×Nat)=>cs.setIfInBounds (off+p.2) p.1) r).toList=splice r.toList (off+s) D
 | [],s,r=>by simp[rS]
 |v::D,s,r=>by
  simp only[List.zipIdx_cons,List.foldl_cons]
  rw[BJ off D (s+1),Array.toList_setIfInBounds,←Nat.add_assoc,CC]
theorem QD{β:jf}{G:Sp→Nat→Nat}{w:World}{M:iP}{place:Nat→Option (Nat×Nat)}: ∀(parts:List (Nat×Value)) (E:List (Nat×List T)) (F:List T) (D:Array Value) (H:List T),
  iF β G w M F D.toList→F.all single=true→parts.length=E.length→(∀(j i:Nat) (cv:Value) (off:Nat) (ts:List T),parts[j]? =some (i,cv)→E[j]? =some (off,ts)→place i=some (off,ts.length)∧iF β G w M ts cv.cells.toList∧ts.all single=true)→
  qZ F E=some H→ ∃rc,Instr.fill place D parts=some rc∧iF β G w M H rc.toList∧H.all single=true
 | [],E,F,D,H,J,hs,r,K,I=>by
   grind [qZ,Instr.fill]
 |(i,cv)::parts,E,F,D,H,J,hs,r,K,I=>by
  cases E with
  |nil=>simp at r
  |cons p E=>
   obtain⟨off,ts⟩:=p
   simp only[qZ]at I
   split at I
   ·rename_i O
    obtain⟨W,N,U⟩:=K 0 i cv off ts rfl rfl
    have EU:=iF.length _ _ N
    have NW:=iF.length _ _ J
    have X:cv.cells.size=ts.length:=by rw[EU];simp
    have V:D.size=F.length:=by rw[NW];simp
    have Y: ¬((cv.cells.size≠ts.length||off+cv.cells.size>D.size)=true):=by
     grind
    have e:(cv.cells.zipIdx.foldl (fun(cs:Array Value) (p:Value×Nat)=>cs.setIfInBounds (off+p.2) p.1) D).toList=splice D.toList off cv.cells.toList:=by
     have:=BJ off cv.cells.toList 0 D
     grind [Array.toList_zipIdx]
    obtain⟨rc,Z,r2,r3⟩:=QD parts E (splice F off ts) (cv.cells.zipIdx.foldl (fun(cs:Array Value) (p:Value×Nat)=>cs.setIfInBounds (off+p.2) p.1) D) H
     (by rw[e];exact iF.splice J N) (uZ hs U) (by simpa using r) (fun j i cv off ts a b=>K (j+1) i cv off ts (by simpa using a) (by simpa using b)) I
    grind [Instr.fill]
   ·cases I
section
variable{P:Program}{B:mQ}{st:St}{a:Act}{w:World}{β:jf}{M:iP}{o:Oper}{v:T}{ups:List Up}
theorem zY{E:List (Nat×Nat)}: ∀{D:List (Nat×Operand)} {r:List (Nat×Nat×iS)},placesOf E D=some r→D.length=r.length∧ ∀(j i:Nat) (x:Operand) (off n:Nat) (y:iS),D[j]? =some (i,x)→r[j]? =some (off,n,y)→E[i]? =some (off,n)∧mO x=some y
 | [],r,h=>by grind [placesOf]
 |(H,I)::D,r,h=>by
  simp only[placesOf]at h
  split at h
  ·rename_i p y J K N F
   simp at h;subst h
   obtain⟨a1,a2⟩:=zY F
   grind
  ·cases h
theorem ym{sz:Nat}: ∀{D:List (Nat×Operand)} {r:List (Nat×Nat×iS)},rD sz D=some r→D.length=r.length∧ ∀(j i:Nat) (x:Operand) (off n:Nat) (y:iS),D[j]? =some (i,x)→r[j]? =some (off,n,y)→(off=i*sz∧n=sz)∧mO x=some y
 | [],r,h=>by grind [rD]
 |(F,H)::D,r,h=>by
  simp only[rD]at h
  split at h
  ·rename_i y I J E
   simp at h;subst h
   obtain⟨a1,a2⟩:=ym E
   grind
  ·cases h
variable(lP:rh β st.gens w M st.rho a.eval)(h:jo B st w β M)
include lP h
theorem XB{d nx:Nat}{t:TypeId}{D:Array (Nat×Operand)}{z:T}{r:List (Nat×Nat×iS)}(ho:o.op= .build t D)(hz:tK P t=some z)
  (N:(∃O F,P.underlying t=some (.struct O)∧O.toList.mapM (fun f=>(P.info? f.type).map fun i=>(f.offset,i.size))=some F∧placesOf F D.toList=some r)∨(∃n e sz,P.underlying t=some (.array n e)∧mC P e=some sz∧rD sz D.toList=some r))
  (U:noTup z=true) (H:(jK d st.rho (.build (cellsOf z) r)).run st.get nx=some (.val v ups)):mq P B st a w β M o v ups:=by
 obtain⟨i,V,z1,z2,z3⟩:=zW hz
 have W:iE β st.gens w M z V:=PRel.toV _ _ _ _ (rO z3)
 obtain⟨X,Y⟩:=uY W U
 simp only[jK]at H
 split at H
 ·rename_i jv
  cases Z:qZ (cellsOf z) (r.map fun p=>(p.1,cellsOf (st.rho p.2.2)))with
  |none=>simp[Z,Ev.val,Q.run]at H
  |some rs=>
   simp[Z,Ev.val,Q.run]at H;obtain⟨rfl,rfl⟩:=H
   have parts: ∃place:Nat→Option (Nat×Nat),(∀rc,Instr.fill place V.cells (D.toList.map fun p=>(p.1,a.eval p.2))=some rc→P.built t (D.map fun(i,x)=>(i,a.eval x)).toList=some rc)∧D.toList.length=r.length∧
     ∀(j i:Nat) (x:Operand) (off n:Nat) (y:iS),D.toList[j]? =some (i,x)→r[j]? =some (off,n,y)→place i=some (off,n)∧mO x=some y:=by
    rcases N with⟨O,F,u1,u2,u3⟩|⟨n,e,sz,u1,u2,u3⟩
    ·obtain⟨g1,g2⟩:=zY u3
     refine⟨fun i=>F[i]?,fun rc E=> ?_,g1,g2⟩
     simp only[Program.built,z1,z2,u1,u2,Array.toList_map]
     have:(fun x:Nat=>F.toArray[x]?)=fun i=>F[i]? :=by funext i;simp
     rw[this];exact E
    ·obtain⟨g1,g2⟩:=ym u3
     have: ∃I,P.info? e=some I∧I.size=sz:=by
      simp_all[mC]
     obtain⟨I,v1,v2⟩:=this
     refine⟨fun i=>some (i*I.size,I.size),fun rc E=> ?_,g1,fun j i x off n y J K=> ?_⟩
     ·simp only[Program.built,z1,z2,u1,v1,Array.toList_map];exact E
     ·obtain⟨⟨rfl,rfl⟩,c⟩:=g2 j i x off n y J K
      exact⟨by rw[v2],c⟩
   obtain⟨place,q1,q2,q3⟩:=parts
   obtain⟨rc,r1,r2,r3⟩:=QD (place:=place) (D.toList.map fun p=>(p.1,a.eval p.2)) _ (cellsOf z) V.cells rs X Y (by simp[q2]) (by
    intro j i cv off ts J K
    rw[List.getElem?_map,Option.map_eq_some_iff]at J K
    obtain⟨⟨i',x⟩,c1,c2⟩:=J
    obtain⟨⟨aAY,n,y⟩,c3,c4⟩:=K
    simp at c2 c4
    obtain⟨rfl,rfl⟩:=c2
    obtain⟨rfl,rfl⟩:=c4
    obtain⟨e1,e2⟩:=q3 j i' x aAY n y c1 c3
    have hv:=lP x y e2
    have XC:=(List.all_eq_true.1 jv) _ (List.mem_of_getElem? c3)
    simp at XC
    obtain⟨k1,k2⟩:=uY hv XC.2
    exact⟨by rw[e1,XC.1],k1,k2⟩) Z
   refine ji h (cv:= .agg rc) ?_ (by simp only[iE];exact⟨rc,rfl,r2,r3⟩)
   have:=run_build (P:=P) w t (D.map fun(i,x)=>(i,a.eval x)) rc (q1 rc r1)
   simp[execOp,ho,this]
 ·simp[Q.run]at H
end
end Go.Ev
namespace Go.Ev
open Go
theorem pZ{st:St}{d:Nat}{sh:Bool}{ob:Ob}{f:Sp→Nat→Nat→T}{v:T}{ups:List Up}(h:(pn d sh ob f).run st.get st.sh.length=some (.val v ups)):
  ∃sp k g,v=f sp k g∧ups= [(sp,k,⟨g,ob⟩)]∧st.gens sp k<g∧(sp= .S→sh=true):=by
 grind [pn,Q.run,St.get,Hs,mN]
theorem zZ{α:Type}(z:List α): ∀n,(repl z n).length=n*z.length
 |0=>by simp[repl]
 |n+1=>by simp[repl,zZ z n,Nat.add_mul];omega
theorem LN{α:Type}(z:List α)(r:z≠ []): ∀(n j:Nat),j<n*z.length→(repl z n)[j]? =z[j%z.length]?
 |0,j,h=>by simp at h
 |n+1,j,h=>by
  have C9:0<z.length:=List.length_pos_iff.2 r
  simp only[repl]
  by_cases D:j<z.length
  ·rw[List.getElem?_append_left D,Nat.mod_eq_of_lt D]
  ·rw[List.getElem?_append_right (by omega),LN z r n (j-z.length) (by rw[Nat.add_mul]at h;omega)]
   grind [Nat.mod_eq_sub_mod]
theorem EX(z:Array Value)(n:Nat)(r:z.size≠0):((Array.range (n*z.size)).map (fun i=>z[i%z.size]!)).toList=repl z.toList n:=by
 apply List.ext_getElem?
 grind [LN,List.getElem?_eq_none,zZ,Nat.mod_lt]
theorem PList.repl{w:World}{M:iP}{z:List T}{r:List Value}(h:PList w M z r): ∀n,PList w M (Ev.repl z n) (Ev.repl r n)
 |0=>by simp[Ev.repl,PList]
 |n+1=>by simp only[Ev.repl];exact PList.append h (PList.repl h n)
theorem EY{z:List T}(h:z.all single=true): ∀n,(repl z n).all single=true
 |0=>by simp[repl]
 |n+1=>by simp only[repl,List.all_append,Bool.and_eq_true];exact⟨h,EY h n⟩
theorem GH{P:Program}{w:World}{t e:TypeId}{i:TypeInfo}{r:Value}{k:IntKind}{m:Int}(E:P.underlying t=some (.slice e))(hi:P.info? e=some i)(F:i.zero=some r)(J:0≤m)(XD:IntKind.i64.wrap m=m)
  (K:(i.bytes:Int)*m≤281474976710656) (N:m.toNat*i.bytes≤140737488355328):
  (Instr.makeSlice t (.int k m) (.int k m)).run P w= .ok (.slice (some ⟨w.heap.size,0,none⟩) m.toNat m.toNat) (w.alloc (.cells ((Array.range (m.toNat*i.size)).map (fun j=>r.cells[j%r.cells.size]!)) e)):=by
 have H: ¬(m<0):=by omega
 have O: ¬(281474976710656<(i.bytes:Int)*m):=by omega
 have U: ¬(140737488355328<m.toNat*i.bytes):=by omega
 have I: ¬(m.toNat*i.bytes>roomBytes):=by unfold roomBytes;omega
 simp only[Instr.makeSlice,Sem.run_bind,run_underlying E,Result.andThen_ok,asInt,asIntOf,Sem.run_pure,typeInfo,run_program,hi,XD]
 simp only[H,decide_false,Bool.false_or,Int.lt_irrefl,gt_iff_lt,Bool.or_false]
 rw[if_neg (by simp;omega)]
 simp only[Sem.run_bind,askRoom,if_neg I,Sem.run_pure,Result.andThen_ok,sizeOf,typeInfo,run_program,hi]
 by_cases D:m.toNat*i.size=0
 ·rw[if_pos D,D]
  have:Array.range 0= #[]:=rfl
  simp[newRow,this]
 ·rw[if_neg D]
  simp[newRow,zeroValue,typeInfo,hi,F]
section
variable{P:Program}{B:mQ}{st:St}{a:Act}{w:World}{β:jf}{M:iP}{o:Oper}{v:T}{ups:List Up}
theorem BK(h:jo B st w β M)(el:TypeId)(c:Array Value)(cs:List T)(bx:Bool)(sp:Sp)(k g:Nat)(F:st.gens sp k<g)
  (H:qy sp bx β st.gens w M cs (c.toList.take cs.length)) (hs:cs.all single=true) (D:cs.length≤c.size):
  jo B (st.up (sp,k,⟨g,.cells cs 0 bx⟩)) (w.alloc (.cells c el)) (oI β sp k g ⟨w.heap.size,0,c.size⟩) (fun b x=>M b x∨b=w.heap.size)∧
  Tr st w β M (st.up (sp,k,⟨g,.cells cs 0 bx⟩)) (w.alloc (.cells c el)) (oI β sp k g ⟨w.heap.size,0,c.size⟩) (fun b x=>M b x∨b=w.heap.size):=by
 have I: ∀r k' E,E≤st.gens r k'→oI β sp k g ⟨w.heap.size,0,c.size⟩ r k' E=β r k' E:=by
  grind [zR]
 have J: ∀r k',st.gens r k'≤(st.up (sp,k,⟨g,.cells cs 0 bx⟩)).gens r k':=by
  intro r k'
  rw[ml]
  grind
 refine Xv h sp k g F (.cells c el) c.size (.cells cs 0 bx) ?_
 unfold lM
 simp only[jT]
 refine⟨c,el,(0,0),by rw[heap_alloc,if_pos rfl],by omega,D,rfl, ?_,fun j _ _=>Or.inr (by trivial),hs,Nat.zero_le _⟩
 simp only[List.drop_zero]
 exact qy.mono (uU w M _) I J H
theorem IS{o':Obj}{sp:Sp}{k g:Nat}{ob:Ob}{ext:Nat}{cv:Value}{v:T}(D:(execOp a.eval o).run P w= .ok (.value cv) (w.alloc o'))
  (r:jo B (st.up (sp,k,⟨g,ob⟩)) (w.alloc o') (oI β sp k g ⟨w.heap.size,0,ext⟩) (fun b x=>M b x∨b=w.heap.size)∧
    Tr st w β M (st.up (sp,k,⟨g,ob⟩)) (w.alloc o') (oI β sp k g ⟨w.heap.size,0,ext⟩) (fun b x=>M b x∨b=w.heap.size))
  (E:iE (oI β sp k g ⟨w.heap.size,0,ext⟩) (st.up (sp,k,⟨g,ob⟩)).gens (w.alloc o') (fun b x=>M b x∨b=w.heap.size) v cv):mq P B st a w β M o v [(sp,k,⟨g,ob⟩)]:=
 ⟨_,cv,_,_,_,D,.inl rfl,r.1,r.2,by show _≤(w.heap.push o').size;simp,E⟩
theorem Tr.less{M':iP}(hs: ∀b x,M' b x→M b x):Tr st w β M st w β M':=⟨kY hs,fun _ _ _ _=>rfl,fun _ _=>Nat.le_refl _⟩
theorem mq.less{M':iP}(hs: ∀b x,M' b x→M b x)(h:mq P B st a w β M' o v ups):mq P B st a w β M o v ups:=by
 obtain⟨nx,cv,w',r,M2,D,E,F,H,I,J⟩:=h
 exact⟨nx,cv,w',r,M2,D,E,F,(Tr.less hs).trans H (Nat.le_refl _),I,J⟩
theorem Aa{l:List Value}{n:Nat}(h:n=l.length):l.take n=l:=by subst h;simp
variable(lP:rh β st.gens w M st.rho a.eval)(h:jo B st w β M)
include h
theorem XE{d:Nat}{sh:Bool}{t:TypeId}{z:T}(H:o.op= .alloc t)(I:tK P t=some z)(D:noTup z=true)
  (E:(jK d st.rho (.alloc (cellsOf z) sh)).run st.get st.sh.length=some (.val v ups)):mq P B st a w β M o v ups:=by
 simp only[jK]at E
 obtain⟨sp,k,g,rfl,rfl,J,K⟩:=pZ E
 obtain⟨N,O,U⟩:=Hv I w
 obtain⟨F,V⟩:=zX (U w M) D
 have r:=PList.length _ _ F
 refine IS (cv:= .pointer (some ⟨w.heap.size,0,none⟩)) ?_ (BK h t N.cells (cellsOf z) true sp k g J (by rw[Aa r];exact qy.ofP F) V (by rw[r];simp)) ?_
 ·simp[execOp,H,Instr.alloc,O,newVar,newRow]
 ·simp[iE,jT,ml]
include lP
theorem aku{d:Nat}{sh:Bool}{t:TypeId}{x:Operand}{H:iS}(X:o.op= .box t x)(Y:mO x=some H)
  (r:(jK d st.rho (.box H sh)).run st.get st.sh.length=some (.val v ups)):mq P B st a w β M o v ups:=by
 have Z:=lP x H Y
 simp only[jK]at r
 split at r
 ·simp[Q.run]at r
 ·rename_i E
  simp at E
  have I: ∀(M':iP) (D:T),jo B st w β M'→noTup D=true→ ∀sp k g,st.gens sp k<g→(match sp with| .L=>iE β st.gens w M' D (a.eval x)| .S=>uV true β st.gens w M' D (a.eval x))→mq P B st a w β M' o (.ptr sp k g 0) [(sp,k,⟨g,.cells (cellsOf D) 0 true⟩)]:=by
   intro M' D h' E sp k g J ht
   have K:iE β st.gens w M' D (a.eval x):=by
    grind [uV.toV]
   obtain⟨U,c2⟩:=uY K E
   have F:=iF.length _ _ U
   refine IS (cv:= .pointer (some ⟨w.heap.size,0,none⟩)) ?_ (BK h' t (a.eval x).cells (cellsOf D) true sp k g J (by
    rw[Aa F]
    cases sp
    ·exact U
    ·exact fun jj G' p q=>(uY (ht jj G' p q) E).1) c2 (by rw[F];simp)) ?_
   ·simp[execOp,X,Instr.box,newVar,newRow]
   ·simp[iE,jT,ml]
  split at r
  ·simp only[Q.run_bind]at r
   cases N:(fz true iT (st.rho H)).run st.get st.sh.length with
   |none=>simp[N]at r
   |some p=>
    obtain⟨D,us⟩:=p
    simp only[N,Option.bind_some]at r
    split at r
    ·rename_i V
     simp at V
     obtain⟨rfl,O⟩:=V
     obtain⟨sp,k,g,rfl,rfl,J,hgs⟩:=pZ r
     obtain⟨M',q1,q2,q3,W,q5⟩:=Cy true st iT (st.rho H) B st w β M _ D [] _ (Fz.refl st) h Z N
     exact mq.less q3 (I M' D q1 O sp k g J (by cases sp;exact W.toV;exact W))
    ·simp[Q.run]at r
  grind [pZ]
omit lP in
theorem XF{d:Nat}{sh:Bool}{t:TypeId}(D:o.op= .makeMap t none)(r:(jK d st.rho (.mkmap sh)).run st.get st.sh.length=some (.val v ups)):mq P B st a w β M o v ups:=by
 simp only[jK]at r
 obtain⟨sp,k,g,rfl,rfl,E,F⟩:=pZ r
 refine IS (ext:=0) (cv:= .map (some w.heap.size)) (o':= .map #[] 0) ?_ (Xv h sp k g E (.map #[] 0) 0 (.map [] [] false) ?_) ?_
 ·simp[execOp,D,Instr.makeMap]
 ·unfold lM
  simp only[jT]
  exact⟨#[],0,by rw[heap_alloc,if_pos rfl],MapKept.stamped_empty 0,by simp[PList],by simp[PList],fun _ _=>Or.inr (by trivial)⟩
 ·simp[iE,jT,ml]
theorem ac0{d:Nat}{sh:Bool}{t e:TypeId}{l c:Operand}{K:iS}{i:TypeInfo}{z:T}(ho:o.op= .makeSlice t l c)(ht:P.underlying t=some (.slice e))(hi:P.info? e=some i)(hz:tK P e=some z)(hl:mO l=some K)(N:IK l c=true)
  (O:noTup z=true) (J:i.size=(cellsOf z).length) (h0:i.size≠0)
  (E:(jK d st.rho (.mksl (cellsOf z) i.bytes K sh)).run st.get st.sh.length=some (.val v ups)):mq P B st a w β M o v ups:=by
 have Z:=lP l K hl
 have ec:a.eval c=a.eval l:=by
  unfold IK at N
  grind
 simp only[jK]at E
 split at E
 ·rename_i n en
  obtain⟨k0,m,em,hm,rfl⟩:=oY en
  rw[em]at Z
  have el:=Z.int
  split at E
  ·rename_i nE
   simp at nE
   obtain⟨U,NZ⟩:=nE
   obtain⟨sp,k,g,rfl,rfl,hg,hgs⟩:=pZ E
   obtain⟨i',r,V,z2,z3⟩:=zW hz
   rw[hi]at V;simp at V;subst V
   obtain⟨c1,c2⟩:=zX (w:=w) (M:=M) (rO z3) O
   have F:=PList.length _ _ c1
   have W:r.cells.size=i.size:=by rw[J,F];simp
   have X:=EX r.cells m.toNat (by omega)
   have Y:roomy=1099511627776:=rfl
   rw[Y]at U NZ
   have XD:IntKind.i64.wrap m=m:=by
    simp[IntKind.wrap,IntKind.bits,IntKind.signed];omega
   have H:((Array.range (m.toNat*i.size)).map (fun j=>r.cells[j%r.cells.size]!)).size=m.toNat*i.size:=by simp
   refine IS (cv:= .slice (some ⟨w.heap.size,0,none⟩) m.toNat m.toNat) ?_ (BK h e ((Array.range (m.toNat*i.size)).map (fun j=>r.cells[j%r.cells.size]!)) (repl (cellsOf z) m.toNat) (Xt (cellsOf z)) sp k g hg ?_ (EY c2 _) ?_) ?_
   ·have I:(i.bytes:Int)*m=((m.toNat*i.bytes:Nat):Int):=by rw[Int.natCast_mul,Int.toNat_of_nonneg hm,Int.mul_comm]
    have:=GH (P:=P) (w:=w) (k:=k0) ht hi z2 hm XD (by rw[I];omega) (by omega)
    simp[execOp,ho,ec,el,this]
   ·have D:PList w M (repl (cellsOf z) m.toNat) (((Array.range (m.toNat*i.size)).map (fun j=>r.cells[j%r.cells.size]!)).toList.take (repl (cellsOf z) m.toNat).length):=by
     rw[zZ,←J,←W,X]
     have:=PList.repl c1 m.toNat
     rw[Aa]
     ·exact this
     ·rw[zZ];simp
    cases hb:Xt (cellsOf z)with
    |false=>exact D
    |true=>
     cases sp with
     |L=>exact PList.toV β st.gens _ _ D
     |S=>exact fun jj G' _ _=>PList.toV jj G' _ _ D
   ·rw[H,zZ,J];exact Nat.le_refl _
   ·simp only[iE,jT,ml]
    refine⟨by simp,m.toNat,rfl,Nat.le_refl _, ?_⟩
    rw[H,J];simp
  ·simp[Q.run]at E
 ·simp[Q.run]at E
end
end Go.Ev
namespace Go.Ev
open Go
theorem ry(st:St): ∀(us:List Up) (sp:Sp) (k:Nat),pW us sp k=false→(st.ups us).get sp k=st.get sp k:=by
 intro us
 induction us generalizing st with
 |nil=>intro sp k _;rfl
 |cons u us ih=>
  grind [pW,Bool.or_eq_false_iff,St.ups,mX]
theorem aik(st:St)(u:Up):(st.up u).fr=st.fr:=by obtain⟨sp,k,e⟩:=u;cases sp <;> rfl
theorem IU(st:St): ∀(us:List Up),(st.ups us).fr=st.fr:=by
 intro us
 induction us generalizing st with
 |nil=>rfl
 |cons u us ih=>grind [St.ups,aik]
theorem CD: ∀{D:List (Nat×Operand)} {r:List (Nat×iS)},xw D=some r→D.length=r.length∧ ∀(j i:Nat) (x:Operand) (E:Nat) (y:iS),D[j]? =some (i,x)→r[j]? =some (E,y)→E=i∧mO x=some y
 | [],r,h=>by grind [xw]
 |(H,I)::D,r,h=>by
  simp only[xw]at h
  split at h
  ·rename_i y J K F
   simp at h;subst h
   obtain⟨a1,a2⟩:=CD F
   grind
  ·cases h
theorem LO{w:World}{M:iP}{place:Nat→Option (Nat×Nat)}: ∀(parts:List (Nat×Value)) (E:List (Nat×List T)) (F:List T) (D:Array Value) (H:List T),
  PList w M F D.toList→F.all single=true→parts.length=E.length→(∀(j i:Nat) (cv:Value) (off:Nat) (ts:List T),parts[j]? =some (i,cv)→E[j]? =some (off,ts)→place i=some (off,ts.length)∧PList w M ts cv.cells.toList∧ts.all single=true)→
  qZ F E=some H→ ∃rc,Instr.fill place D parts=some rc∧PList w M H rc.toList∧H.all single=true∧H.length=F.length
 | [],E,F,D,H,J,hs,r,K,I=>by
   grind [qZ,Instr.fill]
 |(i,cv)::parts,E,F,D,H,J,hs,r,K,I=>by
  cases E with
  |nil=>simp at r
  |cons p E=>
   obtain⟨off,ts⟩:=p
   simp only[qZ]at I
   split at I
   ·rename_i O
    obtain⟨W,N,U⟩:=K 0 i cv off ts rfl rfl
    have EU:=PList.length _ _ N
    have NW:=PList.length _ _ J
    have X:cv.cells.size=ts.length:=by rw[EU];simp
    have V:D.size=F.length:=by rw[NW];simp
    have Y: ¬((cv.cells.size≠ts.length||off+cv.cells.size>D.size)=true):=by
     grind
    have e:(cv.cells.zipIdx.foldl (fun(cs:Array Value) (p:Value×Nat)=>cs.setIfInBounds (off+p.2) p.1) D).toList=splice D.toList off cv.cells.toList:=by
     have:=BJ off cv.cells.toList 0 D
     grind [Array.toList_zipIdx]
    obtain⟨rc,Z,r2,r3,r4⟩:=LO parts E (splice F off ts) (cv.cells.zipIdx.foldl (fun(cs:Array Value) (p:Value×Nat)=>cs.setIfInBounds (off+p.2) p.1) D) H
     (by rw[e];exact PList.splice J N) (uZ hs U) (by simpa using r) (fun j i cv off ts a b=>K (j+1) i cv off ts (by simpa using a) (by simpa using b)) I
    grind [kK,Instr.fill]
   ·cases I
theorem EZ{P:Program}{w:World}{t e:TypeId}{len n:Nat}{i:TypeInfo}{E:Value}{parts:Array (Nat×Value)}{rc:Array Value}(F:P.underlying t=some (.slice e))(hi:P.info? e=some i)(J:i.size=n)(K:i.zero=some E)(N:len*n≤16777216)
  (Hw:Instr.fill (fun j=>some (j*n,n)) ((Array.range (len*n)).map (fun j=>E.cells[j%E.cells.size]!)) parts.toList=some rc):
  (Instr.buildSlice t len parts).run P w= .ok (.slice (some ⟨w.heap.size,0,none⟩) len len) (w.alloc (.cells rc e)):=by
 have LP: ¬(len*n>2 ^ 24):=by omega
 have D:(sizeOf e).run P w= .ok n w:=by simp[sizeOf,typeInfo,hi,J]
 have r:(zeroValue e).run P w= .ok E w:=by simp[zeroValue,typeInfo,hi,K]
 unfold Instr.buildSlice
 by_cases H:len*n=0
 ·have I: ∀f:Nat→Value,(Array.range (len*n)).map f= #[]:=by
   grind
  rw[I]at Hw
  simp only[Sem.run_bind,run_underlying F,Result.andThen_ok,D,if_neg LP,if_pos H,Sem.run_pure,I,Hw]
  simp[newRow]
 ·simp only[Sem.run_bind,run_underlying F,Result.andThen_ok,D,if_neg LP,if_neg H,Sem.run_pure,r,Hw]
  simp[newRow]
section
variable{P:Program}{B:mQ}{st:St}{a:Act}{w:World}{β:jf}{M:iP}{o:Oper}{v:T}{ups:List Up}
variable(lP:rh β st.gens w M st.rho a.eval)(h:jo B st w β M)
theorem Tr.fz{r:St}{M':iP}(D:Fz st r)(hs: ∀b x,M' b x→M b x):Tr st w β M r w β M':=
 ⟨kY hs,fun _ _ _ _=>rfl,fun sp k=>by rw[D.gens];exact Nat.le_refl _⟩
include lP h
theorem akx{d nx:Nat}{t e:TypeId}{len:Nat}{F:Array (Nat×Operand)}{r:List (Nat×iS)}{z:T}{n:Nat}(ho:o.op= .buildSlice t len F)(ht:P.underlying t=some (.slice e))(hz:tK P e=some z)(K:mC P e=some n)(hr:xw F.toList=some r)
  (N:noTup z=true) (O:n=(cellsOf z).length) (h0:n≠0) (Da:len*n≤16777216)
  (D:(jK d st.rho (.bsl (cellsOf z) len r)).run st.get nx=some (.val v ups)):mq P B st a w β M o v ups:=by
 simp only[jK,Q.run_bind]at D
 cases U:(jm (Ev.fz false iT) (r.map fun p=>st.rho p.2)).run st.get nx with
 |none=>simp[U]at D
 |some p=>
  obtain⟨ts,us⟩:=p
  simp only[U,Option.bind_some]at D
  split at D
  ·rename_i jv
   split at D
   ·rename_i cs hf
    simp[Q.run]at D;obtain⟨rfl,rfl⟩:=D
    obtain⟨g1,g2⟩:=CD hr
    have wx:iF β st.gens w M (r.map fun p=>st.rho p.2) (F.toList.map fun p=>a.eval p.2):=by
     have gen: ∀(H:List (Nat×Operand)) (E:List (Nat×iS)),H.length=E.length→(∀(j i:Nat) (x:Operand) (J:Nat) (y:iS),H[j]? =some (i,x)→E[j]? =some (J,y)→J=i∧mO x=some y)→iF β st.gens w M (E.map fun p=>st.rho p.2) (H.map fun p=>a.eval p.2):=by
      intro H
      induction H with
      |nil=>grind [iF]
      |cons q H ih=>
       intro E hl hg
       cases E with
       |nil=>simp at hl
       |cons rr E=>
        simp only[List.map_cons,iF]
        exact⟨_,_,rfl,lP _ _ (hg 0 q.1 q.2 rr.1 rr.2 rfl rfl).2,ih E (by simpa using hl) (fun j i x J y a b=>hg (j+1) i x J y (by simpa using a) (by simpa using b))⟩
     grind
    obtain⟨M',q1,q2,q3,q4,q5,q6⟩:=qm (fun t=>Cy false st iT t) _ B st w β M _ ts us nx (Fz.refl st) h wx U
    have V:PList w M' ts (F.toList.map fun p=>a.eval p.2):=q4
    obtain⟨i,W,z1,z2,z3⟩:=zW hz
    obtain⟨c1,c2⟩:=zX (w:=w) (M:=M') (rO z3) N
    have X:=PList.length _ _ c1
    have Y:i.size=n:=by unfold mC at K;rw[z1]at K;simpa using K
    have I:W.cells.size=n:=by rw[O,X];simp
    have Z:=EX W.cells len (by omega)
    rw[I]at Z
    have atE:PList w M' (repl (cellsOf z) len) ((Array.range (len*n)).map (fun j=>W.cells[j%n]!)).toList:=by
     grind [PList.repl]
    obtain⟨rc,r1,r2,r3,r4⟩:=LO (place:=fun i=>some (i*n,n)) (F.toList.map fun p=>(p.1,a.eval p.2)) _ (repl (cellsOf z) len) _ cs atE (EY c2 len) (by simp[g1,q6]) (by
     intro j i cv off tt b1 b2
     rw[List.getElem?_map,Option.map_eq_some_iff]at b1
     obtain⟨⟨i1,x⟩,c3,c4⟩:=b1
     simp at c4;obtain⟨rfl,rfl⟩:=c4
     rw[List.getElem?_zip_eq_some]at b2
     obtain⟨b3,b4⟩:=b2
     rw[List.getElem?_map,Option.map_eq_some_iff]at b3 b4
     obtain⟨⟨i2,y⟩,d1,d2⟩:=b3
     obtain⟨tv,d3,d4⟩:=b4
     obtain⟨e1,e2⟩:=g2 j i1 x i2 y c3 d1
     subst e1
     simp at d2
     obtain⟨cv',f1,f2⟩:=V.get d3
     rw[List.getElem?_map,c3]at f1
     simp at f1;subst f1
     have LQ:=(List.all_eq_true.1 jv) _ (List.mem_of_getElem? d3)
     simp at LQ
     obtain⟨k1,k2⟩:=zX f2 LQ.2
     subst d4
     exact⟨by rw[LQ.1,←O,←d2,O],k1,k2⟩) hf
    obtain⟨p1,p2⟩:=akd q1 (.cells rc e)
    refine⟨_,.slice (some ⟨w.heap.size,0,none⟩) len len,w.alloc (.cells rc e),β,M', ?_,.inl rfl,p1,(Tr.fz q2 q3).trans p2 (Nat.le_refl _),by show _≤(w.heap.push _).size;simp, ?_⟩
    ·have:=EZ (P:=P) (w:=w) (t:=t) (e:=e) (len:=len) (n:=n) (parts:=F.map fun(i,x)=>(i,a.eval x)) (rc:=rc) ht z1 Y z2 Da (by rw[I];simpa using r1)
     simp[execOp,ho,this]
    ·simp only[iE,PRel]
     refine⟨w.heap.size,0,len,none,rfl,Nat.le_refl _,fun _=>rfl,.inl rfl, ?_⟩
     have hrl:=PList.length _ _ r2
     refine jd.of (c:=rc) (el:=e) (fz:=(0,0)) (by rw[heap_alloc,if_pos rfl]) _ _ ?_ ?_ r3
     ·rw[List.drop_zero,Aa hrl];exact PList.mono p2.keep _ _ r2
     ·intro x _ _ hmx
      exact Nat.lt_irrefl _ (q1.mlt _ _ hmx)
   ·simp[Q.run]at D
  ·simp[Q.run]at D
end
end Go.Ev
namespace Go.Ev
open Go
theorem qU{w:World}{g:Nat}{r cs:Array Value}{t:TypeId}{fr:Nat×Nat}(D:w.heap[g]? =some (.cells r t fr)):w.setRow g cs=setBlock w g (.cells cs t fr):=by
 unfold World.setRow setBlock
 congr 1
 grind
theorem iE.one{β:jf}{G:Sp→Nat→Nat}{w:World}{M:iP}{t:T}{cv:Value}(h:iE β G w M t cv)(hs:single t=true):cv.oneCell'=true:=by
 cases t <;> simp[single]at hs <;> simp only[iE,PRel]at h
 all_goals first
  |(subst h;rfl)
  |(obtain⟨_,rfl,_⟩:=h;rfl)
  |(obtain⟨_,_,rfl,_⟩:=h;rfl)
  |(obtain⟨_,_,_,rfl,_⟩:=h;rfl)
  |(obtain⟨_,_,_,_,rfl,_⟩:=h;rfl)
  |(obtain⟨_,rfl⟩:=h;rfl)
theorem iF.one{β:jf}{G:Sp→Nat→Nat}{w:World}{M:iP}: ∀{ts:List T} {r:List Value},iF β G w M ts r→ts.all single=true→ ∀v∈r,v.oneCell'=true
 | [],r,h,_=>by grind [iF]
 |t::ts,r,h,hs=>by
  simp only[iF]at h
  obtain⟨u,us,rfl,D,E⟩:=h
  simp only[List.all_cons,Bool.and_eq_true]at hs
  intro v hv
  simp at hv
  rcases hv with rfl|hv
  ·exact D.one hs.1
  ·exact iF.one E hs.2 v hv
theorem ac1(l r:List Value)(k:Nat)(D:k+r.length≤l.length)(j:Nat):(l.take k++r++l.drop (k+r.length))[j]? =(splice l k r)[j]? :=by
 rw[mM]
 grind
theorem E0(l r:List Value)(k:Nat)(D:k+r.length≤l.length):l.take k++r++l.drop (k+r.length)=splice l k r:=by
 apply List.ext_getElem?;intro j;exact ac1 l r k D j
section
variable{P:Program}{B:mQ}{st:St}{a:Act}{w:World}{β:jf}{M:iP}{o:Oper}{v:T}{ups:List Up}
theorem Ab(h:jo B st w β M){sp:Sp}{k g wm:Nat}{cs:List T}{bx:Bool}(U:st.get sp k=⟨g,.cells cs wm bx⟩)(r:Nat)(V:g≤r){c:Array Value}{el:TypeId}
  (W:w.heap[(β sp k g).blk]? =some (.cells c el (0,0))) (off:Nat) (D:List Value) (U2:List T) (LR:wm≤off) (LS:off+D.length≤(β sp k g).ext) (hle:wm≤U2.length) (X:U2.length≤(β sp k g).ext) (hs:U2.all single=true)
  (hl:qy sp bx β st.gens w M U2 ((splice (c.toList.drop (β sp k g).off) off D).take U2.length)):
  jo B (st.up (sp,k,⟨r,.cells U2 wm bx⟩)) (setBlock w (β sp k g).blk (.cells (splice c.toList ((β sp k g).off+off) D).toArray el)) (oI β sp k r (β sp k g)) M∧
  Tr st w β M (st.up (sp,k,⟨r,.cells U2 wm bx⟩)) (setBlock w (β sp k g).blk (.cells (splice c.toList ((β sp k g).off+off) D).toArray el)) (oI β sp k r (β sp k g)) M:=by
 have Y:st.gens sp k=g:=by show(st.get sp k).g=g;rw[U]
 have U3:live (st.get sp k):=by rw[U];trivial
 have Z:=h.obj sp k
 rw[U]at Z
 unfold lM at Z
 obtain⟨c0,el0,fz0,O,h2,h3,h4,h5,h6,h7,h8⟩:=Z
 dsimp only at O h2 h3 h4 h6
 rw[W]at O
 simp at O
 obtain⟨rfl,rfl,rfl⟩:=O
 have J:=sS W
 have hk:lG w M (setBlock w (β sp k g).blk (.cells (splice c.toList ((β sp k g).off+off) D).toArray el)) M:=by
  refine⟨fun b x u H I=> ?_,fun b es cl H I=> ?_,fun _ _ _ h=>h⟩
  ·by_cases K:b=(β sp k g).blk
   ·subst K
    unfold World.cell? at H ⊢
    rw[W]at H
    rw[lb,if_pos ⟨rfl,J⟩]
    simp at H ⊢
    rw[mM,if_neg]
    ·simpa using H
    ·rintro⟨q1,q2,q3⟩
     apply I
     have:=h6 (x-(β sp k g).off) (by omega) (by omega)
     rwa [show(β sp k g).off+(x-(β sp k g).off)=x by omega]at this
   ·rw[pv (w:=w) (by rw[lb,if_neg (fun e=>K e.1)])];exact H
  grind [lb]
 have XG: ∀E k' F,F≤st.gens E k'→oI β sp k r (β sp k g) E k' F=β E k' F:=by
  grind [jT,zR]
 have hG: ∀E k',st.gens E k'≤(st.up (sp,k,⟨r,.cells U2 wm bx⟩)).gens E k':=by
  intro E k';rw[ml];split
  ·grind
  ·grind
 have N:=Qs (M':=M) h sp k r (.cells U2 wm bx) U3 (by rw[Y];exact V) (.cells (splice c.toList ((β sp k g).off+off) D).toArray el) (fun _ _ I=>I) (fun _ _ _ I=>I) (by rw[Y];exact hk) (h.base U3)
 rw[Y]at N
 refine N ?_
 unfold lM
 simp only[jT]
 refine⟨_,el,(0,0),by rw[lb,if_pos ⟨rfl,J⟩],by simp[kK];omega,X,rfl, ?_,h6,hs,by omega⟩
 have atF:(splice c.toList ((β sp k g).off+off) D).drop (β sp k g).off=splice (c.toList.drop (β sp k g).off) off D:=by
  apply List.ext_getElem?
  grind [mM,List.length_drop]
 simp only[List.toList_toArray]at atF ⊢
 grind [qy.mono]
variable(lP:rh β st.gens w M st.rho a.eval)(h:jo B st w β M)
include h
omit h in
theorem Hx{M':iP}{us:List Up}{t:TypeId}{n:Nat}{x y:Operand}{sp:Sp}{k g off wm:Nat}{cs:List T}{bx:Bool}{ts:List T}(ho:o.op= .store t x y)(hn:mC P t=some n)(O:jo B (st.ups us) w β M')(K:Tr st w β M (st.ups us) w β M')
  (hx:a.eval x= .pointer (some ⟨(β sp k g).blk,(β sp k g).off+off,none⟩)) (U:(st.ups us).get sp k=⟨g,.cells cs wm bx⟩) (LR:wm≤off) (hle:off+n≤cs.length) (V:ts.length=n) (hs:ts.all single=true)
  (E:qy sp bx β (st.ups us).gens w M' ts (a.eval y).cells.toList):
  mq P B st a w β M o jg (us++ [(sp,k,⟨g,.cells (splice cs off ts) wm bx⟩)]):=by
 have C7:=O.obj sp k
 rw[U]at C7
 unfold lM at C7
 obtain⟨c,el,fz,F,h2,W,X,H,h6,h7,h8⟩:=C7
 dsimp only at F h2 W X H h6
 subst X
 have D:iF β (st.ups us).gens w M' ts (a.eval y).cells.toList:=E.toV
 have N:=iF.length _ _ D
 have XH:=iF.one D hs
 have I:=run_storeCells_at P (β sp k g).blk ((β sp k g).off+off) el (a.eval y).cells.toList 0 c w F (by simp at N ⊢; omega) XH
 rw[qU F]at I
 simp only[Nat.add_zero]at I
 rw[E0 _ _ _ (by simp at N ⊢; omega)]at I
 have r:=Ab O U g (Nat.le_refl _) F off (a.eval y).cells.toList (splice cs off ts) LR (by omega) (by rw[kK];omega) (by rw[kK];exact W) (uZ h7 hs) (by
  rw[kK]
  have XI:(splice (c.toList.drop (β sp k g).off) off (a.eval y).cells.toList).take cs.length=splice ((c.toList.drop (β sp k g).off).take cs.length) off (a.eval y).cells.toList:=by
   apply List.ext_getElem?
   intro j
   rw[List.getElem?_take,mM,mM,List.getElem?_take,List.length_take]
   by_cases J:j<cs.length
   ·rw[if_pos J,if_pos J]
    by_cases Y:off≤j∧j<off+(a.eval y).cells.toList.length∧j<(c.toList.drop (β sp k g).off).length
    ·rw[if_pos Y,if_pos (by omega)]
    ·rw[if_neg Y,if_neg (by omega)]
   ·rw[if_neg J,if_neg J,if_neg (by omega)]
  rw[XI]
  cases bx
  ·exact PList.splice H E
  ·cases sp
   ·exact iF.splice H E
   ·exact fun Z G' p q=>iF.splice (H Z G' p q) (E Z G' p q))
 rw[tN]at r
 refine⟨.skip,undef,setBlock w (β sp k g).blk (.cells (splice c.toList ((β sp k g).off+off) (a.eval y).cells.toList).toArray el),β,M', ?_,.inr ⟨rfl,rfl⟩, ?_, ?_,by rw[lX];exact Nat.le_refl _, ?_⟩
 ·have CE:(a.eval y).cells.size=n:=by simp at N;omega
  simp[execOp,ho,hx,Instr.storeAt,Instr.sureAddr,storeVar,og hn,CE,I]
 ·rw[lJ];exact r.1
 ·rw[lJ];exact K.trans r.2 (Nat.le_refl _)
 ·simp[iE,jg,undef,iF]
include lP
theorem atG{d:Nat}{t:TypeId}{n:Nat}{x y:Operand}{K F:iS}(W:o.op= .store t x y)(hx:mO x=some K)(hy:mO y=some F)(X:mC P t=some n)
  (r:(jK d st.rho (.st K F n)).run st.get st.sh.length=some (.val v ups)):mq P B st a w β M o v ups:=by
 have J:=lP x K hx
 have Y:=lP y F hy
 simp only[jK,uR]at r
 split at r
 ·simp[Q.run]at r
 ·rename_i Z
  simp at Z
  obtain⟨H,N⟩:=Z
  split at r
  ·rename_i sp k g off ex
   rw[ex]at J
   simp only[iE]at J
   simp only[Q.run]at r
   split at r
   ·rename_i hg
    generalize he:st.get sp k=e at*
    obtain⟨ge,ob⟩:=e
    dsimp only at hg;subst hg
    cases ob with
    |none=>simp[Q.run]at r
    |map _ _ _=>simp[Q.run]at r
    |cells cs wm bx=>
     dsimp only at r
     split at r
     ·rename_i LR
      simp at LR
      split at r
      ·rename_i D
       simp at D
       obtain⟨rfl,rfl⟩:=D
       simp[Q.run]at r;obtain⟨rfl,rfl⟩:=r
       obtain⟨k1,k2⟩:=uY Y N
       exact Hx (us:= []) W X h (Tr.refl _ _ _ _) J.2 he LR.1 LR.2 H k2 k1
      ·rename_i D
       simp only[Q.run_bind]at r
       cases O:(fz (bx&&sp== .S) iT (st.rho F)).run st.get st.sh.length with
       |none=>simp[O]at r
       |some p=>
        obtain⟨t',us⟩:=p
        simp only[O,Option.bind_some]at r
        split at r
        ·simp[Q.run]at r
        ·rename_i hh
         simp at hh
         obtain⟨⟨U,E⟩,V⟩:=hh
         simp[Q.run]at r;obtain⟨rfl,rfl⟩:=r
         obtain⟨M',q1,q2,q3,I,q5⟩:=Cy _ st iT (st.rho F) B st w β M _ t' us _ (Fz.refl st) h Y O
         have QE:(st.ups us).get sp k=⟨ge,.cells cs wm bx⟩:=by rw[ry st us sp k U];exact he
         refine Hx (us:=us) W X q1 (Tr.fz q2 q3) J.2 QE LR.1 LR.2 V ?_ ?_
         ·exact(uY I.toV E).2
         ·cases bx with
          |false=>
           simp only[Bool.false_and]at I
           exact(zX I E).1
          |true=>
           cases sp with
           |L=>simp at D
           |S=>
            simp only[Bool.true_and,beq_self_eq_true]at I
            rw[q2.gens]
            exact fun jj G' p q=>(uY (I jj G' p q) E).1
     ·simp[Q.run]at r
   ·simp[Q.run]at r
  ·simp[Q.run]at r
end
end Go.Ev
namespace Go.Ev
open Go
section
variable{P:Program}{B:mQ}{st:St}{a:Act}{w:World}{β:jf}{M:iP}{o:Oper}{v:T}{ups:List Up}
variable(lP:rh β st.gens w M st.rho a.eval)(h:jo B st w β M)
theorem Oy{t U et:TypeId}{ek:EK}{m:Option Nat}{F:Array MapEntry}{E:Nat}{ks vs:List T}{k z r:T}{kv V:Value}{K:Bool}(ht:P.underlying t=some (.map U et))(W:keyOf P U=some ek)
  (hm:(m=none∧F= #[])∨ ∃H,m=some H∧w.heap[H]? =some (.map F E)) (N:PList w M ks (F.toList.map (·.key))) (X:PList w M vs (F.toList.map (·.val))) (J:iE β st.gens w M k kv) (hz:(zeroValue et).run P w= .ok V w) (hzr:PRel w M z V)
  (I:oU ek ks vs k z K=some r): ∃cv,(Instr.lookup t (.map m) kv K).run P w= .ok cv w∧iE β st.gens w M r cv:=by
 unfold oU at I
 split at I
 ·cases I
 ·rename_i QC
  simp at QC
  have O:(Instr.checkKey F.isEmpty 10000 U kv).run P w= .ok () w:=CB (P:=P) W J QC 9998 F.isEmpty
  have Y: ∀D,(Instr.findKey U kv F.toList).run P w= .ok D w→(Instr.lookup t (.map m) kv K).run P w=
    .ok (match D with|some (_,cv)=>if K then .tuple #[cv,.bool true]else cv|none=>if K then .tuple #[V,.bool false]else V) w:=by
   intro D Ac
   unfold Instr.lookup
   rcases hm with⟨rfl,rfl⟩|⟨H,rfl,hb⟩
   ·simp only[Sem.run_bind,run_underlying ht,Result.andThen_ok,Sem.run_pure,O,Ac]
    cases D with
    |none=>simp[hz]
    |some p=>simp
   ·have Db:(getObj H).run P w= .ok (.map F E) w:=by simp[getObj,Sem.run,hb]
    simp only[Sem.run_bind,run_underlying ht,Result.andThen_ok,Sem.run_pure,Db,O,Ac]
    cases D with
    |none=>simp[hz]
    |some p=>simp
  split at I
  ·rename_i i Z
   obtain⟨D,r1,r2⟩:=uX (P:=P) W J F.toList ks _ N Z
   obtain⟨e,e1,e2⟩:=r2
   simp only[Option.map_eq_some_iff]at I
   obtain⟨v',hv',rfl⟩:=I
   obtain⟨cv,c1,c2⟩:=X.get hv'
   grind [iE,iF,PRel.toV]
  ·rename_i Z
   simp at I;subst I
   obtain⟨D,r1,r2⟩:=uX (P:=P) W J F.toList ks _ N Z
   refine⟨_,Y D r1, ?_⟩
   have:D=none:=r2
   grind [iE,iF,PRel.toV]
  ·cases I
include lP h
theorem atJ{d nx:Nat}{t kt et:TypeId}{m k:Operand}{Z k':iS}{O:Bool}{U:EK}{z:T}(ho:o.op= .lookup t m k O)(hm:mO m=some Z)(hk:mO k=some k')(ht:P.underlying t=some (.map kt et))(hek:keyOf P kt=some U)(hz:tK P et=some z)
  (E:(jK d st.rho (.lk U Z k' z O)).run st.get nx=some (.val v ups)):mq P B st a w β M o v ups:=by
 have F:=lP m Z hm
 have vk:=lP k k' hk
 obtain⟨zv,z1,z2⟩:=Hv hz w
 have K: ∀(Y:Option Nat) (H:Array MapEntry) (D:Nat) (ks I:List T) (r:T),a.eval m= .map Y→((Y=none∧H= #[])∨ ∃J,Y=some J∧w.heap[J]? =some (.map H D))→PList w M ks (H.toList.map (·.key))→PList w M I (H.toList.map (·.val))→
   oU U ks I (st.rho k') z O=some r→mq P B st a w β M o r []:=by
  intro Y H D ks I r e1 V W X e5
  obtain⟨cv,r1,r2⟩:=Oy (P:=P) (β:=β) (st:=st) ht hek V W X vk z1 (z2 w M) e5
  exact ji h (cv:=cv) (by simp[execOp,ho,e1,r1]) r2
 simp only[jK]at E
 split at E
 ·rename_i e
  rw[e]at F;simp only[iE]at F
  split at E
  ·rename_i QC
   simp[Q.run]at E;obtain⟨rfl,rfl⟩:=E
   exact K none #[] 0 [] [] _ F (.inl ⟨rfl,rfl⟩) (by simp[PList]) (by simp[PList]) (by simp[oU,QC,oz])
  ·simp[Q.run]at E
 ·rename_i ks I e
  rw[e]at F;simp only[iE,PRel]at F
  obtain⟨J,H,D,e1,V,_,_,W,X⟩:=F
  cases N:oU U ks I (st.rho k') z O with
  |none=>simp[N,Ev.val,Q.run]at E
  |some r=>
   simp[N,Ev.val,Q.run]at E;obtain⟨rfl,rfl⟩:=E
   exact K _ H D ks I _ e1 (.inr ⟨J,rfl,V⟩) W X N
 ·rename_i sp kk g e
  rw[e]at F;simp only[iE]at F
  simp only[Q.run]at E
  split at E
  ·rename_i hg
   have C7:=h.obj sp kk
   generalize he:st.get sp kk=en at*
   obtain⟨ge,ob⟩:=en
   dsimp only at hg;subst hg
   cases ob with
   |none=>simp[Q.run]at E
   |cells _ _ _=>simp[Q.run]at E
   |map ks I f=>
    dsimp only at E
    unfold lM at C7
    obtain⟨H,D,V,_,W,X,_⟩:=C7
    cases N:oU U ks I (st.rho k') z O with
    |none=>simp[N,Ev.val,Q.run]at E
    |some r=>
     simp[N,Ev.val,Q.run]at E;obtain⟨rfl,rfl⟩:=E
     exact K _ H D ks I _ F.2 (.inr ⟨_,rfl,V⟩) W X N
  ·simp[Q.run]at E
 ·simp[Q.run]at E
omit lP h
theorem PList.set{ts:List T}{r:List Value}(i:Nat){t:T}{cv:Value}(h:PList w M ts r)(D:PRel w M t cv):PList w M (ts.set i t) (r.set i cv):=by
 induction ts generalizing r i with
 |nil=>grind [PList]
 |cons x xs ih=>
  simp only[PList]at h
  obtain⟨u,us,rfl,E,F⟩:=h
  cases i with
  |zero=>grind [PList]
  |succ i=>grind [PList]
theorem yn{c:CK}{x y:T}{E F:Value}(r:iE β st.gens w M x E)(D:iE β st.gens w M y F)(h:my c x y=some true)(n:Nat):Instr.sameBits n F E=true:=by
 unfold my at h
 split at h
 ·simp at h;subst h;rw[r.bool,D.bool];simp[Instr.sameBits]
 ·split at h
  ·rename_i e;subst e;simp at h;subst h;rw[r.int,D.int];simp[Instr.sameBits]
  ·cases h
 ·simp at h;subst h
  obtain⟨H,I,J⟩:=r.str
  obtain⟨K,N,O⟩:=D.str
  rw[I,N]
  have:(K==H)=true:=by
   rw[beq_toListBytes,←nV,←lj,←lj,J,O];simp
  grind [Instr.sameBits]
 ·cases h
theorem wI: ∀{ks:List CK} {xs r:List T} {D E:List Value},iF β st.gens w M xs D→iF β st.gens w M r E→j4 ks xs r=some true→ ∀n,D.length=E.length∧((E.zip D).all fun p=>Instr.sameBits n p.1 p.2)=true
 | [],xs,r,D,E,H,I,h,n=>by
   cases xs <;> cases r <;> simp[j4]at h
   simp_all[iF]
 |k::ks,xs,r,D,E,H,I,h,n=>by
  cases xs with
  |nil=>grind [j4]
  |cons x xs=>
   cases r with
   |nil=>simp[j4]at h
   |cons y r=>
    simp only[iF]at H I
    obtain⟨u,us,rfl,J,K⟩:=H
    obtain⟨V,N,rfl,O,N0⟩:=I
    simp only[j4]at h
    cases F:my k x y with
    |none=>simp[F]at h
    |some b=>
     cases b with
     |false=>simp[F]at h
     |true=>
      simp only[F]at h
      obtain⟨W,U⟩:=wI K N0 h n
      simp only[List.length_cons,List.zip_cons_cons,List.all_cons,Bool.and_eq_true]
      exact⟨by omega,yn J O F n,U⟩
theorem IV{r:EK}{x y:T}{F H:Value}(I:(∃c,r= .one c)∨ ∃ks,r= .flat ks)(D:iE β st.gens w M x F)(E:iE β st.gens w M y H)(h:xW r x y=some true)(n:Nat):Instr.sameBits (n+1) H F=true:=by
 rcases I with⟨c,rfl⟩|⟨ks,rfl⟩
 ·exact yn D E h _
 ·unfold xW at h
  split at h <;> simp_all
  rename_i xs N
  simp only[iE]at D E
  obtain⟨O,rfl,J,_⟩:=D
  obtain⟨U,rfl,K,_⟩:=E
  obtain⟨V,W⟩:=wI J K h n
  simp_all[Instr.sameBits,Bool.and_eq_true]
theorem LU{E:EK}{k:T}: ∀{ks:List T} {i:Nat},oz E k ks=some (some i)→ ∃x,ks[i]? =some x∧xW E k x=some true
 | [],i,h=>by simp[oz]at h
 |x::xs,i,h=>by
  simp only[oz]at h
  split at h
  ·grind
  ·simp only[Option.map_eq_some_iff]at h
   obtain⟨r,F,D⟩:=h
   cases r with
   |none=>simp at D
   |some j=>
    simp at D;subst D
    simp_all[LU]
  ·cases h
theorem CF{c:CK}{x y:T}{H I:Value}(r:iE β st.gens w M x H)(D:iE β st.gens w M y I)(h:my c x y=some true):H=I:=by
 unfold my at h
 split at h
 ·simp at h;subst h;rw[r.bool,D.bool]
 ·split at h
  ·rename_i e;subst e;simp at h;subst h;rw[r.int,D.int]
  ·cases h
 ·simp at h;subst h
  obtain⟨E,J,K⟩:=r.str
  obtain⟨F,N,O⟩:=D.str
  rw[J,N]
  have U:bytesN E=bytesN F:=K.trans O.symm
  have V:E.data.toList=F.data.toList:=(List.map_inj_right (f:=UInt8.toNat) (fun _ _ h=>UInt8.toNat_inj.1 h)).1 U
  have W:E=F:=ByteArray.ext (Array.toList_inj.1 V)
  rw[W]
 ·cases h
theorem Ad: ∀{ks:List CK} {xs r:List T} {D E:List Value},iF β st.gens w M xs D→iF β st.gens w M r E→j4 ks xs r=some true→D=E
 | [],xs,r,D,E,H,I,h=>by
   grind [j4,iF]
 |k::ks,xs,r,D,E,H,I,h=>by
  cases xs with
  |nil=>grind [j4]
  |cons x xs=>
   cases r with
   |nil=>simp[j4]at h
   |cons y r=>
    simp only[iF]at H I
    obtain⟨u,us,rfl,J,K⟩:=H
    obtain⟨U,N,rfl,O,N0⟩:=I
    simp only[j4]at h
    cases F:my k x y with
    |none=>simp[F]at h
    |some b=>
     cases b with
     |false=>simp[F]at h
     |true=>
      simp only[F]at h
      rw[CF J O F,Ad K N0 h]
theorem XJ{r:EK}{x y:T}{F H:Value}(I:(∃c,r= .one c)∨ ∃ks,r= .flat ks)(D:iE β st.gens w M x F)(E:iE β st.gens w M y H)(h:xW r x y=some true):F=H:=by
 rcases I with⟨c,rfl⟩|⟨ks,rfl⟩
 ·exact CF D E h
 ·unfold xW at h
  split at h <;> simp_all
  rename_i xs N
  simp only[iE]at D E
  obtain⟨O,rfl,J,_⟩:=D
  obtain⟨U,rfl,K,_⟩:=E
  have:=Ad J K h
  simp_all
theorem Ae{c:CK}{x y:T}{v:Value}(r:iE β st.gens w M x v)(D:iE β st.gens w M y v)(h:my c x y=some false):False:=by
 unfold my at h
 split at h
 ·have e:=r.bool;rw[D.bool]at e;cases e;simp at h
 ·split at h
  ·rename_i e;subst e
   have e:=r.int;rw[D.int]at e;cases e;simp at h
  ·cases h
 ·obtain⟨E,F,H⟩:=r.str
  obtain⟨I,J,K⟩:=D.str
  grind
 ·cases h
theorem yp: ∀{ks:List CK} {xs r:List T} {v:List Value},iF β st.gens w M xs v→iF β st.gens w M r v→j4 ks xs r=some false→False
 | [],xs,r,v,D,E,h=>by
   grind [j4]
 |k::ks,xs,r,v,D,E,h=>by
  cases xs with
  |nil=>grind [j4]
  |cons x xs=>
   cases r with
   |nil=>simp[j4]at h
   |cons y r=>
    simp only[iF]at D E
    obtain⟨u,us,rfl,H,I⟩:=D
    obtain⟨N,J,e,K,N0⟩:=E
    cases e
    simp only[j4]at h
    cases F:my k x y with
    |none=>simp[F]at h
    |some b=>
     cases b with
     |false=>exact Ae H K F
     |true=>
      simp only[F]at h
      exact yp I N0 h
theorem S1{r:EK}{x y:T}{v:Value}(F:(∃c,r= .one c)∨ ∃ks,r= .flat ks)(D:iE β st.gens w M x v)(E:iE β st.gens w M y v)(h:xW r x y=some false):False:=by
 rcases F with⟨c,rfl⟩|⟨ks,rfl⟩
 ·exact Ae D E h
 ·unfold xW at h
  split at h <;> simp_all
  rename_i xs J
  simp only[iE]at D E
  obtain⟨K,rfl,H,_⟩:=D
  obtain⟨N,e,I,_⟩:=E
  cases e
  exact yp H I h
theorem E1{D:EK}{k:T}: ∀{ks:List T},oz D k ks=some none→ ∀x∈ks,xW D k x=some false
 | [],h,x,hx=>by simp at hx
 |y::I,h,x,hx=>by
  simp only[oz]at h
  split at h
  ·simp at h
  ·rename_i E
   simp only[Option.map_eq_some_iff]at h
   obtain⟨r,F,H⟩:=h
   cases r with
   |some j=>simp at H
   |none=>
    rcases List.mem_cons.1 hx with rfl|hx
    ·exact E
    ·exact E1 F x hx
  ·cases h
theorem PList.getV{w:World}{M:iP}: ∀{ts:List T} {r:List Value},PList w M ts r→ ∀{j:Nat} {v:Value},r[j]? =some v→ ∃t,ts[j]? =some t∧PRel w M t v
 | [],r,h,j,v,D=>by grind [PList]
 |x::xs,r,h,j,v,D=>by
  simp only[PList]at h
  obtain⟨u,us,rfl,I,E⟩:=h
  cases j with
  |zero=>grind
  |succ j=>obtain⟨t,F,H⟩:=PList.getV E (j:=j) (v:=v) (by simpa using D);exact⟨t,by simpa using F,H⟩
theorem aim(h:jo B st w β M){sp:Sp}{k g:Nat}{ks vs:List T}(K:st.get sp k=⟨g,.map ks vs false⟩)(LV:Array MapEntry)(E:Nat)(N:MapKept.Stamped LV E)(r J:List T)(hk:PList w M r (LV.toList.map (·.key)))(hv:PList w M J (LV.toList.map (·.val))):
  jo B (st.up (sp,k,⟨g,.map r J false⟩)) (setBlock w (β sp k g).blk (.map LV E)) β M∧Tr st w β M (st.up (sp,k,⟨g,.map r J false⟩)) (setBlock w (β sp k g).blk (.map LV E)) β M:=by
 have O:st.gens sp k=g:=by show(st.get sp k).g=g;rw[K]
 have U3:live (st.get sp k):=by rw[K];trivial
 have U:=h.obj sp k
 rw[K]at U
 unfold lM at U
 obtain⟨es,V,X,_,h2,h3,Y⟩:=U
 dsimp only at X Y
 have W:=sS X
 have D:lG w M (setBlock w (β sp k g).blk (.map LV E)) M:=by
  refine⟨fun b x u Z F=> ?_,fun b es cl Z F=> ?_,fun _ _ _ h=>h⟩
  ·by_cases H:b=(β sp k g).blk
   ·grind
   ·rw[pv (w:=w) (by rw[lb,if_neg (fun e=>H e.1)])];exact Z
  ·by_cases H:b=(β sp k g).blk
   ·simp_all
   ·grind [lb]
 have I:=Qs (M':=M) h sp k g (.map r J false) U3 (Nat.le_of_eq O) (.map LV E) (fun _ _ F=>F) (fun _ _ _ F=>F) (by rw[O];exact D) (h.base U3)
 rw[O,tN]at I
 refine I ?_
 exact⟨LV,E,by rw[lb,if_pos ⟨rfl,W⟩],N,PList.mono D _ _ hk,PList.mono D _ _ hv,Y⟩
include lP h
theorem atK{d:Nat}{t kt et:TypeId}{m k x:Operand}{m' k' x':iS}{ek:EK}(ho:o.op= .mapUpdate t m k x)(hm:mO m=some m')(hk:mO k=some k')(hx:mO x=some x')(ht:P.underlying t=some (.map kt et))(J:keyOf P kt=some ek)
  (D:(jK d st.rho (.mu ek m' k' x')).run st.get st.sh.length=some (.val v ups)):mq P B st a w β M o v ups:=by
 have vm:=lP m m' hm
 have vk:=lP k k' hk
 have vx:=lP x x' hx
 simp only[jK]at D
 split at D
 ·rename_i sp kk g e
  rw[e]at vm;simp only[iE]at vm
  simp only[Q.run]at D
  split at D
  ·rename_i hg
   simp at hg
   obtain⟨hg,QC⟩:=hg
   generalize he:st.get sp kk=en at*
   obtain⟨I,ob⟩:=en
   dsimp only at hg;subst hg
   split at D
   ·rename_i ks O heq
    dsimp only at heq;subst heq
    simp only[Q.run_bind]at D
    cases hz:(fz false iT (st.rho x')).run st.get st.sh.length with
    |none=>simp[hz]at D
    |some p=>
     obtain⟨t',us⟩:=p
     simp only[hz,Option.bind_some]at D
     split at D
     ·rename_i q V
      split at D
      ·simp[Q.run]at D
      ·rename_i hh
       simp at hh
       simp[Q.run]at D;obtain⟨rfl,rfl⟩:=D
       obtain⟨M',q1,q2,q3,q4,q5⟩:=Cy _ st iT (st.rho x') B st w β M _ t' us _ (Fz.refl st) h vx hz
       have q4':PRel w M' t' (a.eval x):=q4
       have QE:(st.ups us).get sp kk=⟨I,.map ks O false⟩:=by rw[ry st us sp kk hh];exact he
       have C7:=q1.obj sp kk
       rw[QE]at C7
       unfold lM at C7
       obtain⟨F,clock,e2,pY,e3,e4,_⟩:=C7
       dsimp only at e2
       have r:iE β st.gens w M' (st.rho k') (a.eval k):=iE.mono (kY q3) (fun _ _ _ _=>rfl) (fun _ _=>Nat.le_refl _) _ _ vk
       have hck:(Instr.checkKey false 10000 kt (a.eval k)).run P w= .ok () w:=CB (P:=P) J r QC 9998 false
       obtain⟨_,sV⟩:=IQ J
       have kp:PRel w M' (st.rho k') (a.eval k):=by
        generalize st.rho k'=tk at*
        cases tk <;> rcases sV with⟨c,rfl⟩|⟨cs,rfl⟩ <;> (try (cases c)) <;> simp[isKey,IJ]at QC
        all_goals first
         |(simp only[iE]at r;simp only[PRel];exact r;done)
         |skip
        rename_i xs
        simp only[iE]at r
        obtain⟨arr,e5,l5,s5⟩:=r
        simp only[PRel]
        refine⟨arr,e5, ?_,s5⟩
        have: ∀(cs:List CK) (xs:List T) (O:List Value),rv cs xs=true→iF β st.gens w M' xs O→PList w M' xs O:=by
         intro cs
         induction cs with
         |nil=>intro xs O hc hv;cases xs <;> simp[rv]at hc;simpa only[iF,PList]using hv
         |cons c cs ih=>
          intro xs O hc hv
          cases xs with
          |nil=>simp[rv]at hc
          |cons x xs=>
           simp only[rv,Bool.and_eq_true]at hc
           simp only[iF]at hv;simp only[PList]
           obtain⟨u,us,rfl,w1,w2⟩:=hv
           refine⟨u,us,rfl, ?_,ih xs us hc.2 w2⟩
           cases c <;> cases x <;> simp[IJ]at hc <;> simp only[iE]at w1 <;> simp only[PRel] <;> exact w1
        exact this _ _ _ QC l5
       have run: ∀(E:Option (Nat×Value)) (LV:Array MapEntry) (rU:Nat),(Instr.findKey kt (a.eval k) F.toList).run P w= .ok E w→
         (match E with
           |some (i,_)=>do
            let key ←Instr.keyThatStays (((F[i]?).map (fun e:MapEntry=>e.key)).getD (a.eval k)) (a.eval k)
            setObj (β sp kk I).blk (.map (F.modify i fun e=>{e with key,val:=a.eval x}) clock)
           |none=>setObj (β sp kk I).blk (.map (F.push {key:=a.eval k,val:=a.eval x,born:=clock}) (clock+1))).run P w= .ok () (setBlock w (β sp kk I).blk (.map LV rU))→
         (execOp a.eval o).run P w= .ok .skip (setBlock w (β sp kk I).blk (.map LV rU)):=by
        intro E LV rU Ac LW
        have:(Instr.mapUpdate t (.map (some (β sp kk I).blk)) (a.eval k) (a.eval x)).run P w= .ok () (setBlock w (β sp kk I).blk (.map LV rU)):=by
         unfold Instr.mapUpdate
         simp only[Sem.run_bind,run_underlying ht,Result.andThen_ok]
         have Db:(getObj (β sp kk I).blk).run P w= .ok (.map F clock) w:=by simp[getObj,Sem.run,e2]
         simp only[Db,Result.andThen_ok,Sem.run_bind,hck,Ac]
         cases E with
         |none=>exact LW
         |some p=>exact LW
        simp[execOp,ho,vm.2,this]
       have LW: ∀(LV:Array MapEntry) (c':Nat),(setObj (β sp kk I).blk (.map LV c')).run P w= .ok () (setBlock w (β sp kk I).blk (.map LV c')):=by
        intro LV c';simp[setObj,Sem.run,e2,setBlock]
       unfold rL at V
       split at V
       ·rename_i i hf
        simp at V;subst V
        obtain⟨E,r1,e,U,r3⟩:=uX (P:=P) J r F.toList ks _ e3 hf
        obtain⟨kx,W,H⟩:=LU hf
        obtain⟨kcv,K,kc2⟩:=e3.get W
        rw[List.getElem?_map,U]at K
        simp at K
        have XK:=IV (β:=β) (st:=st) sV r (PRel.toV β st.gens _ _ kc2) H 9999
        have hei:F[i]? =some e:=by simpa using U
        simp only[Nat.zero_add]at r3
        have hkt:(Instr.keyThatStays (((F[i]?).map (fun e:MapEntry=>e.key)).getD (a.eval k)) (a.eval k)).run P w= .ok (a.eval k) w:=by
         rw[hei];simp only[Option.map_some,Option.getD_some,K]
         unfold Instr.keyThatStays
         rw[if_pos XK];rfl
        obtain⟨X,Y⟩:=aim q1 QE (F.modify i fun e=>{e with key:=a.eval k,val:=a.eval x}) clock (MapKept.stamped_modify pY i _ (fun _ _=>rfl) (fun e' _ N=>by
         have hh:e'=e:=by rw[hei]at N;exact(Option.some.inj N).symm
         subst hh
         exact(XJ sV r (PRel.toV β st.gens _ _ kc2) H).trans K.symm)) (ks.set i (st.rho k')) (O.set i t') (by
         have:=PList.set i e3 kp
         have e5:(F.modify i fun e=>{e with key:=a.eval k,val:=a.eval x}).toList.map (·.key)=(F.toList.map (·.key)).set i (a.eval k):=by
          apply List.ext_getElem?;intro j
          rw[Array.toList_modify,List.getElem?_map,List.getElem?_modify,List.getElem?_set,List.getElem?_map]
          by_cases Z:i=j
          ·subst Z;rw[U];simp;exact(List.getElem?_eq_some_iff.1 U).1
          ·simp[Z]
         rw[e5];exact this) (by
         have:=PList.set i e4 q4'
         have e5:(F.modify i fun e=>{e with key:=a.eval k,val:=a.eval x}).toList.map (·.val)=(F.toList.map (·.val)).set i (a.eval x):=by
          apply List.ext_getElem?;intro j
          rw[Array.toList_modify,List.getElem?_map,List.getElem?_modify,List.getElem?_set,List.getElem?_map]
          by_cases Z:i=j
          ·subst Z;rw[U];simp;exact(List.getElem?_eq_some_iff.1 U).1
          ·simp[Z]
         rw[e5];exact this)
        refine⟨.skip,undef,_,β,M',run E _ clock r1 ?_,.inr ⟨rfl,rfl⟩,by rw[lJ];exact X,by rw[lJ];exact(Tr.fz q2 q3).trans Y (Nat.le_refl _),by rw[lX];exact Nat.le_refl _,by simp[iE,jg,undef,iF]⟩
        subst r3
        simp only[Sem.run_bind,hkt,Result.andThen_ok]
        exact LW _ _
       ·rename_i hf
        simp at V;subst V
        obtain⟨E,r1,U⟩:=uX (P:=P) J r F.toList ks _ e3 hf
        have:E=none:=U
        subst this
        obtain⟨X,Y⟩:=aim q1 QE (F.push {key:=a.eval k,val:=a.eval x,born:=clock}) (clock+1) (MapKept.stamped_push pY (fun y hy N=>by
         obtain⟨j,Z⟩:=List.getElem?_of_mem hy
         obtain⟨kx,W,H⟩:=e3.getV (j:=j) (v:=y.key) (by rw[List.getElem?_map,Z];rfl)
         rw[N]at H
         exact S1 sV r (PRel.toV β st.gens _ _ H) (E1 hf _ (List.mem_of_getElem? W)))) (ks++ [st.rho k']) (O++ [t']) (by
         simp only[Array.toList_push,List.map_append,List.map_cons,List.map_nil]
         exact PList.append e3 (by simp only[PList];exact⟨_,_,rfl,kp,rfl⟩)) (by
         simp only[Array.toList_push,List.map_append,List.map_cons,List.map_nil]
         exact PList.append e4 (by simp only[PList];exact⟨_,_,rfl,q4',rfl⟩))
        exact⟨.skip,undef,_,β,M',run none _ (clock+1) r1 (LW _ _),.inr ⟨rfl,rfl⟩,by rw[lJ];exact X,by rw[lJ];exact(Tr.fz q2 q3).trans Y (Nat.le_refl _),by rw[lX];exact Nat.le_refl _,by simp[iE,jg,undef,iF]⟩
       ·cases V
     ·simp[Q.run]at D
   ·simp[Q.run]at D
  ·simp[Q.run]at D
 ·simp[Q.run]at D
end
end Go.Ev
namespace Go.Ev
open Go
theorem Hy(BL:Nat): ∀(r c:Nat),c≤BL+(BL+768)/4→Builtin.growBy BL r c≤BL+(BL+768)/4
 |0,c,h=>by simpa[Builtin.growBy]using h
 |r+1,c,h=>by
  simp only[Builtin.growBy]
  split
  ·exact h
  ·exact Hy BL r _ (by omega)
theorem ac3(IW r:Nat)(h:r<IW):Builtin.nextslicecap IW r≤2*IW+192:=by
 grind [Builtin.nextslicecap,Hy]
theorem S2{IW r bytes:Nat}(h:r<IW)(D:IW*bytes≤1099511627776)(E:bytes≠0):Builtin.nextslicecap IW r*bytes≤281474976710656:=by
 have F:=Nat.mul_le_mul_right bytes (ac3 IW r h)
 have H:bytes≤IW*bytes:=Nat.le_mul_of_pos_left bytes (by omega)
 grind
section
variable{P:Program}{B:mQ}{st:St}{a:Act}{w:World}{β:jf}{M:iP}{o:Oper}{v:T}{ups:List Up}
theorem GI(h:jo B st w β M){sz nx n:Nat}{x:T}{cx:Value}{xs:List T}(I:iE β st.gens w M x cx)(r:(j5 sz x).run st.get nx=some (n,xs)):
  ∃news:List Value,(∀w':World,w'.heap=w.heap→(Builtin.lenOf cx).run P w'= .ok n w'∧(Builtin.firstCells sz n cx).run P w'= .ok news.toArray w')∧PList w M xs news∧xs.all single=true∧xs.length=n*sz:=by
 unfold j5 at r
 split at r
 ·simp[Q.run]at r;obtain⟨rfl,rfl⟩:=r
  simp_all[iE,Builtin.lenOf,Builtin.firstCells,PList]
 ·rename_i cs len ex
  split at r
  ·rename_i N
   simp[Q.run]at r;obtain⟨rfl,rfl⟩:=r
   simp only[iE,PRel]at I
   obtain⟨O,off,U,sp,rfl,V,h2,h5,W⟩:=I
   obtain⟨X,J,e2,e3,e4⟩:=jd.load (P:=P) W
   refine⟨X,fun w' hw=>⟨by simp[Builtin.lenOf], ?_⟩,e3,e4,N⟩
   have:=run_loadCells_list (P:=P) w' ⟨O,off,sp⟩ X (fun j u E=>by
    rcases h5 with h5|h5
    ·grind [World.cell?,ma]
    ·exfalso
     have hz:len=0:=by omega
     have h0:X= []:=List.length_eq_zero_iff.1 (by rw[J,N,hz,Nat.zero_mul])
     subst h0;simp at E)
   rw[J,N]at this
   simp[Builtin.firstCells,this]
  ·simp[Q.run]at r
 ·rename_i sp k g off len F
  split at r
  ·rename_i Y
   subst Y
   simp only[Q.run]at r
   split at r
   ·rename_i hg
    have C7:=h.obj sp k
    generalize he:st.get sp k=en at*
    obtain⟨K,ob⟩:=en
    dsimp only at hg;subst hg
    cases ob with
    |none=>simp[Q.run]at r
    |map _ _ _=>simp[Q.run]at r
    |cells cs wm bx=>
     cases bx with
     |true=>simp[Q.run]at r
     |false=>
      dsimp only at r
      split at r
      ·rename_i hle
       simp[Q.run]at r;obtain⟨rfl,rfl⟩:=r
       unfold lM at C7
       obtain⟨c,el,fz,V,h2,W,h4,h5,h6,h7,h8⟩:=C7
       dsimp only at V h2 W h5
       simp only[iE]at I
       obtain⟨q1,U,rfl,q2,q3⟩:=I
       have S0:=PList.take (len*F) (PList.drop off h5)
       rw[List.drop_take,List.drop_drop,List.take_take]at S0
       have Z:min (len*F) (cs.length-off)=len*F:=by omega
       rw[Z]at S0
       have D:((cs.drop off).take (len*F)).length=len*F:=by simp;omega
       refine⟨(c.toList.drop ((β sp k K).off+off)).take (len*F),fun w' hw=>⟨by simp[Builtin.lenOf], ?_⟩,S0,oJ h7 _ _,D⟩
       have CG:=PList.length _ _ S0
       rw[D]at CG
       have:=run_loadCells_list (P:=P) w' ⟨(β sp k K).blk,(β sp k K).off+off,none⟩ ((c.toList.drop ((β sp k K).off+off)).take (len*F)) (fun j u E=>by
        rw[ma]
        rw[List.getElem?_take]at E
        split at E
        ·rw[List.getElem?_drop]at E
         unfold World.cell?;rw[hw,V];simpa using E
        ·cases E)
       rw[←CG]at this
       simp[Builtin.firstCells,this]
      ·simp[Q.run]at r
   ·simp[Q.run]at r
  ·simp[Q.run]at r
 ·rename_i l
  split at r
  ·rename_i Y
   subst Y
   simp[Q.run]at r;obtain⟨rfl,rfl⟩:=r
   obtain⟨H,rfl,rfl⟩:=I.str
   refine⟨H.data.toList.map fun b=> .int .u8 b.toNat,fun w' _=>⟨by simp[Builtin.lenOf,nJ], ?_⟩, ?_, ?_,by simp⟩
   ·have J:(H.extract 0 H.size).data=H.data:=by
     apply Array.ext'
     rw[ByteArray.data_extract,Array.toList_extract,List.extract_eq_take_drop]
     rw[List.drop_zero]
     exact List.take_of_length_le (by show H.data.toList.length≤H.data.size-0;simp)
    simp only[Builtin.firstCells,nJ,J,Sem.run_pure]
    congr 1
    apply Array.ext';simp
   ·unfold bytesN
    rw[List.map_map]
    generalize H.data.toList=l
    induction l with
    |nil=>simp[PList]
    |cons b l ih=>simp only[List.map_cons,PList];exact⟨_,_,rfl,by simp[PRel],ih⟩
   ·rw[List.all_eq_true];intro x hx;simp at hx;obtain⟨_,_,rfl⟩:=hx;rfl
  ·simp[Q.run]at r
 ·simp[Q.run]at r
theorem LX{t u ty e:TypeId}{D:TypeDesc}{i:TypeInfo}{z:Value}(J:P.underlying t=some (.slice e))(K:P.underlying u=some D)(E:D= .string∨ ∃I,D= .slice I)(hi:P.info? e=some i)(N:i.zero=some z)
  {base:Option Addr} {lR oE n:Nat} {cx:Value} {Af news:List Value} (O:(Builtin.lenOf cx).run P w= .ok n w) (Hz:(Builtin.firstCells i.size n cx).run P w.drew= .ok news.toArray w.drew) (r:(Builtin.firstCells i.size lR (.slice base lR oE)).run P w.drew= .ok Af.toArray w.drew)
  (U:oE<lR+n) (V:(lR+n)*i.bytes≤1099511627776) (W:i.bytes≠0):
  (Builtin.append_ #[t,u] ty #[.slice base lR oE,cx]).run P w= .ok (.slice (some ⟨w.heap.size,0,none⟩) (lR+n) (grownCap w (lR+n) oE e))
     (w.drew.alloc (.cells (Af.toArray++news.toArray++Builtin.zeroCells z.cells (grownCap w (lR+n) oE e-(lR+n))) e)):=by
 have F: ¬(lR+n≤oE):=by omega
 have X:lR+n≤(lR+n)*i.bytes:=Nat.le_mul_of_pos_right _ (by omega)
 have Dc: ¬(9223372036854775807<((lR:Int)+(n:Int))):=by omega
 have H: ¬(281474976710656<Builtin.nextslicecap (lR+n) oE*i.bytes):=by have:=S2 U V W;omega
 rcases E with rfl|⟨I,rfl⟩ <;>
 ·simp[Builtin.append_,run_underlying J,run_underlying K,sizeOf,typeInfo,zeroValue,hi,N,O,F,Dc,H,Question.forced,Hz,r,newRow,grownCap]
  grind
theorem wJ{t u ty e:TypeId}{D:TypeDesc}{i:TypeInfo}(F:P.underlying t=some (.slice e))(H:P.underlying u=some D)(E:D= .string∨ ∃I,D= .slice I)(hi:P.info? e=some i)
  {base:Option Addr} {lR oE n:Nat} {cx:Value} {news:List Value} {w':World} (J:(Builtin.lenOf cx).run P w= .ok n w) (Hz:(Builtin.firstCells i.size n cx).run P w= .ok news.toArray w)
  (K:lR+n≤oE) (r:match base with|some N=>(storeCells (N.add (lR*i.size)) news).run P w= .ok () w'|none=>w'=w):
  (Builtin.append_ #[t,u] ty #[.slice base lR oE,cx]).run P w= .ok (.slice base (lR+n) oE) w':=by
 rcases E with rfl|⟨I,rfl⟩ <;>
 ·cases base with
  |none=>
   dsimp only at r;subst r
   simp[Builtin.append_,run_underlying F,run_underlying H,sizeOf,typeInfo,hi,J,K,Hz]
  |some N=>
   dsimp only at r
   simp[Builtin.append_,run_underlying F,run_underlying H,sizeOf,typeInfo,hi,J,K,Hz,r]
theorem ac4{bx:Bool}(h:jo B st w β M)(el:TypeId)(c:Array Value)(cs:List T)(wm:Nat)(sp:Sp)(k g:Nat)(D:st.gens sp k<g)
  (E:PList w M cs (c.toList.take cs.length)) (hs:cs.all single=true) (r:cs.length≤c.size) (LR:wm≤cs.length):
  jo B (st.up (sp,k,⟨g,.cells cs wm bx⟩)) (w.alloc (.cells c el)) (oI β sp k g ⟨w.heap.size,0,c.size⟩) (fun b x=>M b x∨b=w.heap.size)∧
  Tr st w β M (st.up (sp,k,⟨g,.cells cs wm bx⟩)) (w.alloc (.cells c el)) (oI β sp k g ⟨w.heap.size,0,c.size⟩) (fun b x=>M b x∨b=w.heap.size):=by
 refine Xv h sp k g D (.cells c el) c.size (.cells cs wm bx) ?_
 unfold lM
 simp only[jT]
 refine⟨c,el,(0,0),by rw[heap_alloc,if_pos rfl],by omega,r,rfl, ?_,fun j _ _=>Or.inr (by trivial),hs,LR⟩
 simp only[List.drop_zero]
 exact qy.ofP (PList.mono (uU w M _) _ _ E)
variable(lP:rh β st.gens w M st.rho a.eval)(h:jo B st w β M)
include lP h
theorem akB{d:Nat}{sh nm:Bool}{c:Call}{t u e:TypeId}{ud:TypeDesc}{i:TypeInfo}{z:Value}{s x:Operand}{s' x':iS}(ho:o.op= .call c)(hb:c.callee= .builtin .append)(uD:c.argTypes.toList= [t,u])(has:c.args.toList= [s,x])
  (ht:P.underlying t=some (.slice e)) (H:P.underlying u=some ud) (Y:ud= .string∨ ∃e',ud= .slice e') (hi:P.info? e=some i) (hz:i.zero=some z) (qn:i.size=z.cells.size) (h0:i.size≠0) (hby:i.bytes≠0) (hs:mO s=some s') (hx:mO x=some x')
  (D:(jK d st.rho (.app i.size i.bytes s' x' sh nm)).run st.get st.sh.length=some (.val v ups)):mq P B st a w β M o v ups:=by
 have W:=lP s s' hs
 have vx:=lP x x' hx
 have oh:c.argTypes= #[t,u]:=by apply Array.ext';simp[uD]
 have K: ∀cv w',(Builtin.append_ #[t,u] o.type #[a.eval s,a.eval x]).run P w= .ok cv w'→(execOp a.eval o).run P w= .ok (.value cv) w':=by
  intro cv w' hr
  rw[lQ ho hb,acV has,oh]
  simp[builtin,hr]
 simp only[jK,pN,Q.run_bind]at D
 cases oi:(j5 i.size (st.rho x')).run st.get st.sh.length with
 |none=>grind
 |some p=>
  obtain⟨n,xs⟩:=p
  simp only[oi,Option.bind_some]at D
  obtain⟨news,Ag,n1,n2,n3⟩:=GI (P:=P) h vx oi
  have HA:news.length=n*i.size:=by rw[←PList.length _ _ n1,n3]
  by_cases hn0:n=0
  ·rw[if_pos hn0]at D
   subst hn0
   have Hz:news= []:=by apply List.eq_nil_of_length_eq_zero;simpa using HA
   subst Hz
   have same: ∀base lR oE,a.eval s= .slice base lR oE→lR≤oE→mq P B st a w β M o (st.rho s') []:=by
    intro base lR oE X hle
    refine ji h (cv:= .slice base lR oE) ?_ (by rw[←X];exact W)
    have:=wJ (P:=P) (w:=w) (w':=w) (t:=t) (u:=u) (ty:=o.type) (base:=base) (lR:=lR) (oE:=oE) (cx:=a.eval x) (n:=0) (news:= []) ht H Y hi (Ag w rfl).1 (Ag w rfl).2 (by omega) (by cases base <;> simp[storeCells])
    exact K _ _ (by rw[X];exact this)
   grind [Q.run,iE,PRel]
  ·rw[if_neg hn0]at D
   have hz0:z.cells.size≠0:=by omega
   have N: ∀(bx:Bool) (base:Option Addr) (lR oE:Nat) (Af:List Value) (Z:List T) (sp:Sp) (k g wm:Nat),a.eval s= .slice base lR oE→oE<lR+n→(lR+n)*i.bytes≤1099511627776→PList w M Z Af→Z.all single=true→Z.length=lR*i.size→
     (Builtin.firstCells i.size lR (.slice base lR oE)).run P w.drew= .ok Af.toArray w.drew→st.gens sp k<g→wm≤Z.length→mq P B st a w β M o (.isl sp k g 0 (lR+n) i.size) [(sp,k,⟨g,.cells (Z++xs) wm bx⟩)]:=by
    intro bx base lR oE Af Z sp k g wm X nv I ho1 ho2 ho3 hfc hg LR
    have hr:=LX (P:=P) (w:=w) (t:=t) (u:=u) (ty:=o.type) (base:=base) (lR:=lR) (oE:=oE) (cx:=a.eval x) (n:=n) (Af:=Af) (news:=news) ht H Y hi hz (Ag w rfl).1 (Ag w.drew rfl).2 hfc nv I hby
    obtain⟨hd1,hd2⟩:=IN h (w.drawn+1)
    have hol:Af.length=lR*i.size:=by rw[←PList.length _ _ ho1,ho3]
    have EV:=grownCap_ge w (lR+n) oE e
    have CE:(Af.toArray++news.toArray++Builtin.zeroCells z.cells (grownCap w (lR+n) oE e-(lR+n))).size=grownCap w (lR+n) oE e*i.size:=by
     rw[Array.size_append,Array.size_append,size_zeroCells]
     simp only[List.size_toArray,hol,HA,←qn]
     rw[←Nat.add_mul,←Nat.add_mul];congr 1;omega
    have E:(Z++xs).length=Af.length+news.length:=by simp[ho3,n3,hol,HA]
    obtain⟨r1,r2⟩:=ac4 (bx:=bx) hd1 e (Af.toArray++news.toArray++Builtin.zeroCells z.cells (grownCap w (lR+n) oE e-(lR+n))) (Z++xs) wm sp k g hg (by
     have:(Af.toArray++news.toArray++Builtin.zeroCells z.cells (grownCap w (lR+n) oE e-(lR+n))).toList.take (Z++xs).length=Af++news:=by
      rw[E]
      simp only[Array.toList_append,List.toList_toArray]
      rw[List.take_append_of_le_length (by simp)]
      exact List.take_of_length_le (by simp)
     rw[this]
     exact PList.mono hd2.keep _ _ (PList.append ho1 n1)) (by simp only[List.all_append,Bool.and_eq_true];exact⟨ho2,n2⟩) (by
     rw[CE,E,hol,HA,←Nat.add_mul];exact Nat.mul_le_mul_right _ EV) (by simp;omega)
    refine⟨_,_,_,_,_,K _ _ (by rw[X];exact hr),.inl rfl,r1,hd2.trans r2 (Nat.le_refl _), ?_, ?_⟩
    ·show w.heap.size≤(w.heap.push _).size;simp
    ·simp only[iE]
     refine⟨by simp[St.ups,ml],grownCap w (lR+n) oE e, ?_,EV, ?_⟩
     ·rw[jT]
     ·rw[jT,CE];exact Nat.le_of_eq (Nat.zero_add _)
   split at D
   ·rename_i X
    rw[X]at W;simp only[iE]at W
    split at D
    ·rename_i I
     unfold roomy at I
     obtain⟨sp,k,g,rfl,rfl,hg,_⟩:=pZ D
     have:=N (nm&& !sh) none 0 0 [] [] sp k g 0 W (by omega) (by simpa using I) (by simp[PList]) rfl (by simp) (by simp[Builtin.firstCells]) hg (Nat.zero_le _)
     simpa using this
    ·simp[Q.run]at D
   ·rename_i cs len X
    rw[X]at W;simp only[iE,PRel]at W
    obtain⟨blk,off,F,lp,e1,e2,e3,e5,e4⟩:=W
    have:=e3 trivial;subst this
    split at D
    ·rename_i I
     simp at I
     unfold roomy at I
     obtain⟨sp,k,g,rfl,rfl,hg,_⟩:=pZ D
     obtain⟨ol,f1,f2,f3,f4⟩:=jd.load (P:=P) e4
     refine N false _ _ _ ol cs sp k g 0 e1 (by omega) I.2 f3 f4 I.1 ?_ hg (Nat.zero_le _)
     have:=run_loadCells_list (P:=P) w.drew ⟨blk,off,lp⟩ ol (fun j u H=>by
      rcases e5 with e5|e5
      ·subst e5
       rw[ma];have:=f2 j u H;unfold World.cell? at this ⊢; exact this
      ·exfalso
       have h0:ol= []:=List.length_eq_zero_iff.1 (by rw[f1,I.1,e5,Nat.zero_mul])
       subst h0;simp at H)
     rw[f1,I.1]at this
     simp[Builtin.firstCells,this]
    ·simp[Q.run]at D
   ·rename_i sp k g off len sz X
    rw[X]at W;simp only[iE]at W
    obtain⟨q1,F,e1,e2,e3⟩:=W
    split at D
    ·rename_i I
     simp at I
     unfold roomy at I
     obtain⟨⟨rfl,rfl⟩,I⟩:=I
     simp only[Q.run]at D
     split at D
     ·rename_i hg
      have C7:=h.obj sp k
      generalize he:st.get sp k=en at*
      obtain⟨r,ob⟩:=en
      dsimp only at hg;subst hg
      cases ob with
      |none=>simp[Q.run]at D
      |map _ _ _=>simp[Q.run]at D
      |cells cs wm bx=>
       cases bx with
       |true=>simp[Q.run]at D
       |false=>
        dsimp only at D
        split at D
        ·rename_i E
         simp[Q.run]at D;obtain⟨rfl,rfl⟩:=D
         unfold lM at C7
         obtain⟨J,el,fz,U,h2,h3,h4,h5,h6,h7,h8⟩:=C7
         dsimp only at U h2 h3 h4 h5 h6
         subst h4
         have HB:st.gens sp k=r:=by show(st.get sp k).g=r;rw[he]
         by_cases Oz:len+n≤F
         ·have XL:(len+n)*i.size≤F*i.size:=Nat.mul_le_mul_right _ Oz
          rw[Nat.add_mul]at XL
          have XH:=iF.one (PList.toV β st.gens _ _ n1) n2
          have pY:=run_storeCells_at P (β sp k r).blk ((β sp k r).off+len*i.size) el news 0 J w U (by omega) XH
          rw[qU U]at pY
          simp only[Nat.add_zero]at pY
          rw[E0 _ _ _ (by simp;omega)]at pY
          have hr:=wJ (P:=P) (w:=w) (t:=t) (u:=u) (ty:=o.type) (base:=some ⟨(β sp k r).blk,(β sp k r).off+0,none⟩) (lR:=len) (oE:=F) (cx:=a.eval x) (n:=n) (news:=news) ht H Y hi (Ag w rfl).1 (Ag w rfl).2 Oz (by
           dsimp only;rw[ma];simpa using pY)
          have V:=Ab h he (r+1) (Nat.le_succ _) U (len*i.size) news (cs++xs) (by omega) (by omega) (by simp;omega) (by simp[n3];omega) (by simp only[List.all_append,Bool.and_eq_true];exact⟨h7,n2⟩) (by
           show PList w M _ _
           have h5:PList w M cs _:=h5
           have:(splice (J.toList.drop (β sp k r).off) (len*i.size) news).take (cs++xs).length=(J.toList.drop (β sp k r).off).take cs.length++news:=by
            rw[←E0 _ _ _ (by simp;omega),E,List.take_append_of_le_length (by simp[n3,HA];omega)]
            exact List.take_of_length_le (by simp[n3,HA];omega)
           rw[this]
           exact PList.append h5 n1)
          refine⟨_,_,_,_,_,K _ _ (by rw[e1];exact hr),.inl rfl,V.1,V.2,by rw[lX];exact Nat.le_refl _, ?_⟩
          simp only[iE]
          refine⟨by simp[St.ups,ml],F,by rw[jT],Oz,by rw[jT];exact e3⟩
         ·have S0:PList w M cs ((J.toList.drop (β sp k r).off).take cs.length):=h5
          refine N false _ len F ((J.toList.drop (β sp k r).off).take cs.length) cs sp k (r+1) wm e1 (by omega) I S0 h7 E.symm ?_ (by rw[HB];omega) h8
          have CG:=PList.length _ _ S0
          have:=run_loadCells_list (P:=P) w.drew ⟨(β sp k r).blk,(β sp k r).off+0,none⟩ ((J.toList.drop (β sp k r).off).take cs.length) (fun j u H=>by
           rw[ma]
           rw[List.getElem?_take]at H
           split at H
           ·rw[List.getElem?_drop]at H
            unfold World.cell?
            show(match w.heap[(β sp k r).blk]? with|some (.cells c _ _)=>if(none:Option Nat).isSome then none else c[(β sp k r).off+0+j]? |_=>none)=some u
            rw[U];simpa using H
           ·cases H)
          rw[←CG]at this
          simp only[Builtin.firstCells]
          rw[E]
          exact this
        ·split at D
         ·rename_i hpt
          simp only[Bool.and_eq_true,decide_eq_true_eq]at hpt
          obtain⟨⟨⟨rfl,rfl⟩,E⟩,Dd⟩:=hpt
          simp[Q.run]at D;obtain⟨rfl,rfl⟩:=D
          unfold lM at C7
          obtain⟨J,el,fz,U,h2,h3,h4,h5,h6,h7,h8⟩:=C7
          dsimp only at U h2 h3 h4 h5 h6
          subst h4
          have HB:st.gens sp k=r:=by show(st.get sp k).g=r;rw[he]
          have S0:PList w M cs ((J.toList.drop (β sp k r).off).take cs.length):=h5
          have h5t:PList w M (cs.take (len*i.size)) ((J.toList.drop (β sp k r).off).take (len*i.size)):=by
           have:=PList.take (len*i.size) S0
           rwa [List.take_take,Nat.min_eq_left (by omega)]at this
          have O:(cs.take (len*i.size)).length=len*i.size:=by rw[List.length_take];omega
          have uD:(cs.take (len*i.size)).all single=true:=List.all_eq_true.2 fun x hx=>List.all_eq_true.1 h7 x (List.mem_of_mem_take hx)
          by_cases Oz:len+n≤F
          ·have XL:(len+n)*i.size≤F*i.size:=Nat.mul_le_mul_right _ Oz
           rw[Nat.add_mul]at XL
           have XH:=iF.one (PList.toV β st.gens _ _ n1) n2
           have pY:=run_storeCells_at P (β sp k r).blk ((β sp k r).off+len*i.size) el news 0 J w U (by omega) XH
           rw[qU U]at pY
           simp only[Nat.add_zero]at pY
           rw[E0 _ _ _ (by simp;omega)]at pY
           have hr:=wJ (P:=P) (w:=w) (t:=t) (u:=u) (ty:=o.type) (base:=some ⟨(β sp k r).blk,(β sp k r).off+0,none⟩) (lR:=len) (oE:=F) (cx:=a.eval x) (n:=n) (news:=news) ht H Y hi (Ag w rfl).1 (Ag w rfl).2 Oz (by
            dsimp only;rw[ma];simpa using pY)
           have V:=Ab h he (r+1) (Nat.le_succ _) U (len*i.size) news (cs.take (len*i.size)++xs) Dd (by omega) (by rw[List.length_append,O];omega) (by rw[List.length_append,O,n3];omega) (by simp only[List.all_append,Bool.and_eq_true];exact⟨uD,n2⟩) (by
            show PList w M _ _
            have:(splice (J.toList.drop (β sp k r).off) (len*i.size) news).take (cs.take (len*i.size)++xs).length=(J.toList.drop (β sp k r).off).take (len*i.size)++news:=by
             have hl9:len*i.size+news.length≤(J.toList.drop (β sp k r).off).length:=by simp;omega
             rw[←E0 _ _ _ (by simp;omega),List.length_append,O,n3,←HA]
             rw[List.take_append_of_le_length (by simp;omega)]
             exact List.take_of_length_le (by simp;omega)
            rw[this]
            exact PList.append h5t n1)
           refine⟨_,_,_,_,_,K _ _ (by rw[e1];exact hr),.inl rfl,V.1,V.2,by rw[lX];exact Nat.le_refl _, ?_⟩
           simp only[iE]
           refine⟨by simp[St.ups,ml],F,by rw[jT],Oz,by rw[jT];exact e3⟩
          ·refine N false _ len F ((J.toList.drop (β sp k r).off).take (len*i.size)) (cs.take (len*i.size)) sp k (r+1) wm e1 (by omega) I h5t uD O ?_ (by rw[HB];omega) (by rw[O];exact Dd)
           have CG:=PList.length _ _ h5t
           rw[O]at CG
           have:=run_loadCells_list (P:=P) w.drew ⟨(β sp k r).blk,(β sp k r).off+0,none⟩ ((J.toList.drop (β sp k r).off).take (len*i.size)) (fun j u H=>by
            rw[ma]
            rw[List.getElem?_take]at H
            split at H
            ·rw[List.getElem?_drop]at H
             unfold World.cell?
             show(match w.heap[(β sp k r).blk]? with|some (.cells c _ _)=>if(none:Option Nat).isSome then none else c[(β sp k r).off+0+j]? |_=>none)=some u
             rw[U];simpa using H
            ·cases H)
           rw[←CG]at this
           simp only[Builtin.firstCells]
           exact this
         ·simp[Q.run]at D
     ·simp[Q.run]at D
    ·simp[Q.run]at D
   ·simp[Q.run]at D
end
end Go.Ev
namespace Go.Ev
open Go
section
variable{P:Program}{B:mQ}{st:St}{a:Act}{w:World}{β:jf}{M:iP}{o:Oper}{v:T}{ups:List Up}
theorem rV{x:Option T}{h:Sp→Nat→iy}{nx:Nat}(r:(Ev.val x).run h nx=some (.val v ups)):x=some v∧ups= []:=by
 cases x with
 |none=>simp[Ev.val,Q.run]at r
 |some y=>grind [Ev.val,Q.run]
theorem ac5(lP:rh β st.gens w M st.rho a.eval)(h:jo B st w β M){c:Call}(D:o.op= .call c){sh:Nat}{N1:nO}{d:Nat}(r:tL P sh c=some N1)
  (E:(jK d st.rho N1).run st.get st.sh.length=some (.val v ups)):mq P B st a w β M o v ups:=by
 unfold tL at r
 split at r
 ·grind [Option.map_eq_some_iff,jK,Q.run]
 ·grind [jK,Q.run]
 ·grind [jK,Q.run,acW,acX,acY,acZ]
 ·rename_i F
  split at r
  ·rename_i t u x y H I
   split at r
   ·grind [akB]
   ·cases r
  ·cases r
 ·grind [Option.map_eq_some_iff,aih]
 ·grind [Option.map_eq_some_iff,aih]
 ·cases r
theorem atM(lP:rh β st.gens w M st.rho a.eval)(h:jo B st w β M){sh:Nat}{N1:nO}{d:Nat}(D:kq P sh o.op=some N1)
  (E:(jK d st.rho N1).run st.get st.sh.length=some (.val v ups)):mq P B st a w β M o v ups:=by
 cases GJ:o.op with
 |move x=>
  grind [kq,Option.map_eq_some_iff,jK,Q.run,aie]
 |assign x=>
  rw[GJ]at D;simp only[kq,Option.map_eq_some_iff]at D
  obtain⟨y,F,rfl⟩:=D
  simp[jK,Q.run]at E;obtain⟨rfl,rfl⟩:=E
  simp_all[aie]
 |pick c x y=>
  grind [kq,jK,Q.run,acP]
 |alloc t=>
  grind [kq,XE]
 |box t x=>
  grind [kq,Option.map_eq_some_iff,aku]
 |build t W=>
  grind [kq,Option.map_eq_some_iff,XB]
 |buildSlice t len W=>
  grind [kq,akx]
 |load t x=>
  grind [kq,atx]
 |store t x y=>
  grind [kq,atG]
 |nilCheck x=>
  grind [kq,Option.map_eq_some_iff,akg]
 |binOp op t x y t'=>
  rw[GJ]at D;simp only[kq]at D
  split at D
  ·rename_i x' y' F I
   split at D
   ·rename_i N
    simp at D;subst D
    obtain⟨e1,rfl⟩:=rV E
    simp only[Option.map_eq_some_iff]at e1
    obtain⟨r,J,rfl⟩:=e1
    exact QB (neg:=false) lP h GJ F I (by have:=uW N;simp[EM,this]) (by simp) J
   ·rename_i N
    simp at D;subst D
    obtain⟨e1,rfl⟩:=rV E
    simp only[Option.map_eq_some_iff]at e1
    obtain⟨r,J,rfl⟩:=e1
    exact QB (neg:=true) lP h GJ F I (by have:=uW N;simp[EM,this]) (by simp) J
   ·simp at D;subst D
    obtain⟨e1,rfl⟩:=rV E
    grind [akh]
   ·rename_i N
    simp only[Option.map_eq_some_iff]at D
    obtain⟨k,H,rfl⟩:=D
    obtain⟨e1,rfl⟩:=rV E
    simp only[Option.map_eq_some_iff]at e1
    obtain⟨r,J,rfl⟩:=e1
    refine QB (neg:=false) lP h GJ F I H ?_ J
    have CE:=rR H
    grind
   ·rename_i N
    simp only[Option.map_eq_some_iff]at D
    obtain⟨k,H,rfl⟩:=D
    obtain⟨e1,rfl⟩:=rV E
    simp only[Option.map_eq_some_iff]at e1
    obtain⟨r,J,rfl⟩:=e1
    refine QB (neg:=true) lP h GJ F I H ?_ J
    have CE:=rR H
    grind
   ·cases D
  ·cases D
 |unOp op t x=>
  rw[GJ]at D;simp only[kq,Option.map_eq_some_iff]at D
  obtain⟨y,F,rfl⟩:=D
  obtain⟨e1,rfl⟩:=rV E
  grind [atw]
 |convert s t x=>
  grind [kq,jK,Q.run,akj]
 |makeFunc X first Y=>
  rw[GJ]at D
  cases X <;> simp only[kq]at D <;> try (cases D;done)
  grind [jK,Q.run,acS]
 |makeMap t r=>
  rw[GJ]at D
  cases r <;> simp only[kq]at D
  ·grind [XF]
  ·cases D
 |makeSlice t l c=>
  grind [kq,ac0]
 |slice t x l Z m=>
  rw[GJ]at D;simp only[kq]at D
  split at D
  ·rename_i y l' h' F I H U O
   simp at D;subst D
   have V:m=none:=by cases m <;> simp[wc]at O ⊢
   grind [akq]
  ·rename_i e y l' h' m' F I H U O
   split at D
   ·rename_i n hn
    split at D
    ·rename_i K
     simp at K D;subst D
     refine akr lP h GJ I H U O F hn K.1 ?_ E
     intro V
     rcases K.2 with e1|e1
     ·cases m with
      |none=>simp at V
      |some mm=>grind [wc,Option.map_eq_some_iff]
     ·cases Z with
      |none=>grind [wc]
      |some _=>rfl
    ·cases D
   ·cases D
  ·cases D
 |fieldAddr s x f=>
  grind [kq,aty]
 |field s x f=>
  grind [kq,akm]
 |indexAddr t x j=>
  grind [kq,atz,akp]
 |index t x j=>
  grind [kq,ako,akn]
 |lookup t m k ok=>
  grind [kq,atJ]
 |mapUpdate t m k x=>
  grind [kq,Option.map_eq_some_iff,atK]
 |extract x j=>
  rw[GJ]at D;simp only[kq,Option.map_eq_some_iff]at D
  obtain⟨y,F,rfl⟩:=D
  simp only[jK]at E
  split at E
  ·rename_i vs e
   obtain⟨e1,rfl⟩:=rV E
   grind [akk]
  ·simp[Q.run]at E
 |call c=>grind [kq,ac5]
 |_=>grind [kq]
end
end Go.Ev
