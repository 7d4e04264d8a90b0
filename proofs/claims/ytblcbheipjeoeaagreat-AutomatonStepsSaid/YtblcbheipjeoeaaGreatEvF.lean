/- A tree evaluator over the model, proved against it (part F): where it answers, the call returns that answer. Conditions: none beyond its theorems' own. -/
import Derived.Test.YtblcbheipjeoeaaGreatEvE
set_option linter.unusedSimpArgs false
set_option linter.unusedVariables false
namespace Go.Ev
open Go
theorem aay{x:Bool}:froz (.b x)=true:=nr rfl
theorem aaz{k:IntKind}{n:Int}:froz (.i k n)=true:=nr rfl
theorem aaA{l:List Nat}:froz (.s l)=true:=nr rfl
theorem It:froz .nilsl=true:=nr rfl
theorem Ux{cs:List T}{n:Nat}{e:Bool}:froz (.sl cs n e)=true:=nr rfl
theorem Uy{cs:List T}:froz (.vp cs)=true:=nr rfl
theorem Gl{cs:List T}:froz (.agg cs)=cs.all froz1:=nr rfl
theorem PU{cs:List T}:froz (.tup cs)=cs.all froz1:=nr rfl
theorem Uz{x:Bool}:froz1 (.b x)=true:=nr rfl
theorem wL{k:IntKind}{n:Int}:froz1 (.i k n)=true:=nr rfl
theorem D2{l:List Nat}:froz1 (.s l)=true:=nr rfl
theorem Gm:froz1 .nilsl=true:=nr rfl
theorem PV{cs:List T}{n:Nat}{e:Bool}:froz1 (.sl cs n e)=true:=nr rfl
theorem D3:froz1 .nilptr=true:=nr rfl
theorem Mn{cs:List T}:cellsOf (.agg cs)=cs:=nr rfl
theorem UA{x:Bool}:cellsOf (.b x)= [.b x]:=nr rfl
theorem UB{k:IntKind}{n:Int}:cellsOf (.i k n)= [.i k n]:=nr rfl
theorem UC{l:List Nat}:cellsOf (.s l)= [.s l]:=nr rfl
theorem PW{cs:List T}{n:Nat}{e:Bool}:cellsOf (.sl cs n e)= [.sl cs n e]:=nr rfl
theorem Mo{sp:Sp}{a b c d e:Nat}:cellsOf (.isl sp a b c d e)= [.isl sp a b c d e]:=nr rfl
theorem PX{sp:Sp}{a b:Nat}:cellsOf (.mp sp a b)= [.mp sp a b]:=nr rfl
theorem Mp{cs:List T}:noTup (.agg cs)=true:=nr rfl
theorem UD{x:Bool}:noTup (.b x)=true:=nr rfl
theorem UE{k:IntKind}{n:Int}:noTup (.i k n)=true:=nr rfl
theorem UF{l:List Nat}:noTup (.s l)=true:=nr rfl
theorem PY{cs:List T}{n:Nat}{e:Bool}:noTup (.sl cs n e)=true:=nr rfl
theorem Mq{sp:Sp}{a b c d e:Nat}:noTup (.isl sp a b c d e)=true:=nr rfl
theorem PZ{sp:Sp}{a b:Nat}:noTup (.mp sp a b)=true:=nr rfl
theorem Iu:notS .nilsl=true:=nr rfl
theorem P0{a b c d e:Nat}:notS (.isl .L a b c d e)=true:=nr rfl
theorem UG{a b:Nat}:notS (.mp .L a b)=true:=nr rfl
theorem UH{cs:List T}{n:Nat}{e:Bool}:qH (.sl cs n e)=some n:=nr rfl
theorem P1:lenI .nilsl=some (.i .i64 0):=nr rfl
theorem UI{cs:List T}{n:Nat}{e:Bool}:lenI (.sl cs n e)=some (.i .i64 n):=nr rfl
theorem P2{sp:Sp}{a b c d e:Nat}:lenI (.isl sp a b c d e)=some (.i .i64 d):=nr rfl
theorem P3{k:IntKind}{n:Int}:scalar (.i k n)=true:=nr rfl
section
variable{lh:fC fg}{sh:List fg}{m g off k:Nat}{ag:Bool}
theorem aaB{cs:List T}:SQ lh sh (.vp cs) m ag=Ev.part cs 0 m ag:=rfl
theorem ahH:SQ lh sh (.ptr .L k g off) m ag=ldE (be lh k) g off m ag:=rfl
theorem ahI:SQ lh sh (.ptr .S k g off) m ag=ldE (gC sh k) g off m ag:=rfl
theorem aaC{cs:List T}:faV (.vp cs) off=if off≤cs.length then some (.vp (cs.drop off))else none:=rfl
theorem UJ{sp:Sp}{o:Nat}:faV (.ptr sp k g o) off=some (.ptr sp k g (o+off)):=rfl
theorem ahJ{cs:List T}:amF (.agg cs) off m ag=Ev.part cs off m ag:=rfl
theorem UK{cs:List T}:Io (.vp cs)=some (.vp cs):=rfl
theorem P4{sp:Sp}{o:Nat}:Io (.ptr sp k g o)=some (.ptr sp k g o):=rfl
theorem aky{f:Nat}{a c:List T}:Io (.fn f a c)=some (.fn f a c):=rfl
theorem P5{vs:List T}:TX (.tup vs) m=vs[m]? :=rfl
theorem UL{l:List Nat}:Kj (.s l)=some (.i .i64 l.length):=rfl
theorem aaD{kk kk':IntKind}{n:Int}:TV kk (.i kk' n)=some (.i kk (wr kk n)):=rfl
theorem vC{m k g g' off len sz wm:Nat}{lh:fC fg}{sh:List fg}{cs:List T}:PG m lh sh k ⟨g',.cells cs wm false⟩ g off len sz=if g'=g∧off+len*sz≤cs.length then some (.sl ((cs.drop off).take (len*sz)) len false,[(.L,k,⟨g,.cells cs cs.length false⟩)])else none:=rfl
theorem UM{k g g':Nat}{ks vs:List T}{z:Bool}:mpV k ⟨g',.map ks vs z⟩ g=if g'=g then some (.vm ks vs,[(.L,k,⟨g,.map ks vs true⟩)])else none:=rfl
theorem acW{sz g g' off len wm:Nat}{cs:List T}:slE sz ⟨g',.cells cs wm false⟩ g off len=if g'=g∧off+len*sz≤cs.length then some (len,(cs.drop off).take (len*sz))else none:=rfl
theorem AP{g g' off len sz pn bytes wm:Nat}{p:Nat×List T}{cs:List T}:Mh lh k ⟨g',.cells cs wm false⟩ g off len sz pn bytes p=if pn=sz∧off=0∧(len+p.1)*bytes≤roomy∧g'=g∧len*sz=cs.length then some (.isl .L k (g+1) 0 (len+p.1) sz,qm lh k ⟨g+1,.cells (cs++p.2) wm false⟩)else none:=rfl
theorem CP{d sz bytes:Nat}{cs:List T}{s:T}(h:(qH s).isSome=true):AN lh d sz bytes s (0,cs)=some (s,lh):=by
 unfold AN;rw[if_pos rfl];cases s <;> first|rfl|(simp[qH]at h)
theorem Gn{d sz bytes n:Nat}{cs:List T}:AN lh d sz bytes .nilsl (n+1,cs)=if(n+1)*bytes≤roomy then some (.isl .L d ((be lh d).g+1) 0 (n+1) sz,qm lh d ⟨(be lh d).g+1,.cells cs 0 false⟩)else none:=by
 unfold AN;rw[if_neg (Nat.succ_ne_zero n)]
theorem Gp{d sz pn bytes n g off len:Nat}{cs:List T}:AN lh d sz bytes (.isl .L k g off len pn) (n+1,cs)=Mh lh k (be lh k) g off len sz pn bytes (n+1,cs):=by
 unfold AN;rw[if_neg (Nat.succ_ne_zero n)]
end
def ints(xs:List Int):List T:=xs.map (T.i .i64)
theorem qo(xs:List Int):(ints xs).length=xs.length:=by simp[ints]
theorem CQ(xs:List Int)(k:Nat)(hk:k<xs.length):(ints xs).drop k=T.i .i64 xs[k]::(ints xs).drop (k+1):=by
 rw[List.drop_eq_getElem_cons (by rw[qo];exact hk)];simp[ints]
def fD(v:T)(n:Nat)(cs:List T):Prop:=(v= .nilsl∧n=0∧cs= [])∨ ∃ex,v= .sl cs n ex
theorem fD.len{v:T}{n:Nat}{cs:List T}(h:fD v n cs):qH v=some n:=by
 rcases h with⟨rfl,rfl,_⟩|⟨ex,rfl⟩ <;> rfl
theorem fD.lenI{v:T}{n:Nat}{cs:List T}(h:fD v n cs):lenI v=some (.i .i64 (n:Int)):=Uk h.len
theorem fD.froz1{v:T}{n:Nat}{cs:List T}(h:fD v n cs):froz1 v=true:=by
 rcases h with⟨rfl,_,_⟩|⟨ex,rfl⟩ <;> rfl
theorem fD.froz{v:T}{n:Nat}{cs:List T}(h:fD v n cs):froz v=true:=by
 rcases h with⟨rfl,_,_⟩|⟨ex,rfl⟩ <;> rfl
theorem fD.cells{v:T}{n:Nat}{cs:List T}(h:fD v n cs):cellsOf v= [v]:=by
 rcases h with⟨rfl,_,_⟩|⟨ex,rfl⟩ <;> rfl
theorem fD.noTup{v:T}{n:Nat}{cs:List T}(h:fD v n cs):noTup v=true:=by
 rcases h with⟨rfl,_,_⟩|⟨ex,rfl⟩ <;> rfl
theorem fD.ia{v:T}{n sz k:Nat}{cs:List T}{kk:IntKind}(h:fD v n cs)(hc:cs.length=n*sz)(hk:k<n):tf v (.i kk (k:Int)) sz=some (.vp (cs.drop (k*sz))):=by
 rcases h with⟨rfl,rfl,_⟩|⟨ex,rfl⟩
 ·omega
 ·have h3:(k+1)*sz≤cs.length:=by rw[hc];exact Nat.mul_le_mul_right sz hk
  rw[iZ,Int.toNat_natCast,if_pos ⟨Int.natCast_nonneg k,hk,h3⟩]
end Go.Ev
namespace Go.Ev
open Go
section
variable(E:Env)(n:Nat)(b:fm)(fr:Fr)(lh:fC fg)(sh:List fg)
noncomputable def gr:Fr:=match DC E n (.loop b) ⟨fr,lh,sh⟩with|some (_,st)=>st.fr|none=>fr
noncomputable def gp:fC fg:=match DC E n (.loop b) ⟨fr,lh,sh⟩with|some (_,st)=>st.lh|none=>lh
noncomputable def gn:List fg:=match DC E n (.loop b) ⟨fr,lh,sh⟩with|some (_,st)=>st.sh|none=>sh
end
section
variable{E:Env}{n:Nat}{b:fm}{fr:Fr}{lh:fC fg}{sh:List fg}{o:Out}
theorem P6{s:Nat}(h:(gY (.loop b)).contains s=false):an (gr E n b fr lh sh) s=an fr s:=by
 unfold gr
 cases hd:DC E n (.loop b) ⟨fr,lh,sh⟩with
 |none=>rfl
 |some p=>obtain⟨o,st⟩:=p;exact pL hd s h
def jo:List Nat→Nat
 | []=>0
 |s::ss=>(1 <<< s) ||| jo ss
theorem Kr(s:Nat): ∀l:List Nat,s∈l→(jo l).testBit s=true
 | [],h=>by simp at h
 |x::xs,h=>by
  rw[jo,Nat.testBit_or]
  rcases List.mem_cons.1 h with h|h
  ·subst h
   have:(1 <<< s).testBit s=true:=by simp[Nat.testBit_shiftLeft]
   rw[this];rfl
  ·rw[Kr s xs h];simp
theorem Mr{s:Nat}(h:(jo (gY (.loop b)) >>> s)%2=0):an (gr E n b fr lh sh) s=an fr s:=by
 refine P6 ?_
 cases hc:(gY (.loop b)).contains s with
 |false=>rfl
 |true=>
  have h1:=Kr s _ (List.contains_iff_mem.1 hc)
  rw[Nat.testBit,Nat.and_comm,Nat.and_one_is_mod,h]at h1
  simp at h1
theorem AQ{fH:fC fg}{fL:List fg}{P:Fr→Prop}(h: ∃fR,DC E n (.loop b) ⟨fr,lh,sh⟩=some (o,⟨fR,fH,fL⟩)∧P fR):
  DC E n (.loop b) ⟨fr,lh,sh⟩=some (o,⟨gr E n b fr lh sh,fH,fL⟩)∧P (gr E n b fr lh sh):=by
 obtain⟨fR,h1,h2⟩:=h
 have:gr E n b fr lh sh=fR:=by unfold gr;rw[h1]
 rw[this];exact⟨h1,h2⟩
theorem Ms{P:Fr→fC fg→List fg→Prop}(h: ∃fR fH fL,DC E n (.loop b) ⟨fr,lh,sh⟩=some (o,⟨fR,fH,fL⟩)∧P fR fH fL):
  DC E n (.loop b) ⟨fr,lh,sh⟩=some (o,⟨gr E n b fr lh sh,gp E n b fr lh sh,gn E n b fr lh sh⟩)∧P (gr E n b fr lh sh) (gp E n b fr lh sh) (gn E n b fr lh sh):=by
 obtain⟨fR,fH,fL,h1,h2⟩:=h
 have e1:gr E n b fr lh sh=fR:=by unfold gr;rw[h1]
 have e2:gp E n b fr lh sh=fH:=by unfold gp;rw[h1]
 have e3:gn E n b fr lh sh=fL:=by unfold gn;rw[h1]
 rw[e1,e2,e3];exact⟨h1,h2⟩
end
end Go.Ev
namespace Go.Ev
open Go
section
variable{a:Int}
theorem UN{k k':IntKind}{b:Int}:Ev.bin .shr (.i k a) (.i k' b)=if b<0 then none else some (.i k (a.fdiv (2 ^ (min b.toNat k.bits)))):=by
 simp only[Ev.bin,Aa]
end
theorem uX{n:Int}(h:0≤n∧n≤18446744073709551615):wr .u64 n=n:=by unfold wr lo hi;exact if_pos h
end Go.Ev
namespace Go.Ev
open Go
theorem AR(x:FP):apart x mL=true:=by
 obtain⟨a,r,w⟩:=x
 simp[apart,lq,mL,Hz]
theorem Iv(x:FP):apart mL x=true:=by
 obtain⟨a,r,w⟩:=x
 simp[apart,lq,mL,Hz]
theorem P7{r r' w w':List (Sp×Nat)}:apart ⟨false,r,w⟩ ⟨false,r',w'⟩=(lq w r'&&lq w w'&&lq r w'):=by
 simp[apart]
theorem Iw{ys:List (Sp×Nat)}:lq [] ys=true:=rfl
theorem Gq{x:Sp×Nat}{xs ys:List (Sp×Nat)}:lq (x::xs) ys=(!ys.contains x&&lq xs ys):=rfl
theorem UO{x:Sp×Nat}:([]:List (Sp×Nat)).contains x=false:=rfl
theorem P8{a c:Sp}{b d:Nat}{ys:List (Sp×Nat)}:((c,d)::ys).contains (a,b)=((decide (a=c)&&decide (b=d))||ys.contains (a,b)):=by
 rw[List.contains_cons]
 have:((a,b)==(c,d))=(decide (a=c)&&decide (b=d)):=by
  cases a <;> cases c <;> by_cases h:b=d <;> simp[h]
 rw[this]
def lv:kG→Bool
 | .mv _| .pick .. | .bin .. | .eq .. | .un .. | .cvi .. | .mkfn .. | .build .. | .slS .. | .fa .. | .fld .. | .ia .. | .iaA .. | .ixS .. | .ixA .. | .ext .. | .lenS _| .lenV _| .lenC _| .mm .. | .nck _=>true
 | .slV _ _ _ _ none=>true
 |_=>false
theorem UP{x:fM}:lv (.mv x)=true:=nr rfl
theorem Mt{c a b:fM}:lv (.pick c a b)=true:=nr rfl
theorem P9{o:BinOp}{x y:fM}:lv (.bin o x y)=true:=nr rfl
theorem UQ{o:UnOp}{x:fM}:lv (.un o x)=true:=nr rfl
theorem Ix{z:List T}{ps:List (Nat×Nat×fM)}:lv (.build z ps)=true:=nr rfl
theorem UR{x:fM}{o:Nat}:lv (.fa x o)=true:=nr rfl
theorem US{x y:fM}{m:Nat}:lv (.ia x y m)=true:=nr rfl
theorem Qa{x y:fM}{m k:Nat}:lv (.iaA x y m k)=true:=nr rfl
theorem Qb{x:fM}{j:Nat}:lv (.ext x j)=true:=nr rfl
theorem Mu{x:fM}:lv (.lenV x)=true:=nr rfl
theorem Qc{x:fM}:lv (.nck x)=true:=nr rfl
theorem Qd{m:Nat}{x:fM}{l h:Option fM}:lv (.slV m x l h none)=true:=nr rfl
def Q.plain:Q zl→Prop
 | .ret (.val _ ups)=>ups= []
 | .fail=>True
 | .rd _ _ _=>False
 | .new _=>False
theorem Q.plain_run{h:Sp→Nat→fg}{nx:Nat}: ∀(q:Q zl),q.plain→ ∀{v:T} {ups:List Up},q.run h nx=some (.val v ups)→ups= []∧q.asks h nx=false∧q.log h nx= []
 | .ret (.val _ _),hc,v,ups,hr=>by simp[Q.run]at hr;obtain⟨rfl,rfl⟩:=hr;exact⟨hc,rfl,rfl⟩
 | .fail,hc,v,ups,hr=>by simp[Q.run]at hr
 | .rd sp k f,hc,v,ups,hr=>hc.elim
 | .new f,hc,v,ups,hr=>hc.elim
theorem lK{o:Option T}:(val o).plain:=by cases o <;> simp[val,Q.plain]
theorem Qe{d:Nat}{ρ:fM→T}{op:kG}(h:lv op=true):(gA d ρ op).plain∧gD ρ op=none:=by
 refine⟨?_,by cases op <;> first|rfl|(simp[lv]at h)⟩
 cases op with
 |mv x=>exact rfl
 |pick c a b=>simp only[gA];split <;> simp[Q.plain]
 |bin op x y=>exact lK
 |eq neg k x y=>exact lK
 |un op x=>exact lK
 |cvi k x=>simp only[gA];split <;> simp[Q.plain]
 |mkfn f a c=>exact rfl
 |build z ps=>
  simp only[gA]
  by_cases hb:(ps.all fun p=>decide ((cellsOf (ρ p.2.2)).length=p.2.1)&&noTup (ρ p.2.2))=true
  ·rw[if_pos hb];exact lK
  ·rw[if_neg hb];trivial
 |slS x l h=>
  simp only[gA]
  split
  ·split
   ·split <;> simp[Q.plain]
   ·trivial
  ·trivial
 |fa x off=>
  simp only[gA]
  split
  ·split <;> simp[Q.plain]
  ·exact rfl
  ·trivial
 |fld x off m ag=>
  simp only[gA]
  split
  ·exact lK
  ·trivial
 |ia x ix sz=>
  simp only[gA]
  split
  ·split <;> simp[Q.plain]
  ·split <;> simp[Q.plain]
  ·trivial
 |iaA x ix len sz=>
  simp only[gA]
  split
  ·split <;> simp[Q.plain]
  ·split <;> simp[Q.plain]
  ·trivial
 |ixS x ix=>
  simp only[gA]
  split
  ·split <;> simp[Q.plain]
  ·trivial
 |ixA x ix len sz ag=>
  simp only[gA]
  split
  ·split
   ·exact lK
   ·trivial
  ·trivial
 |ext x j=>
  simp only[gA]
  split
  ·exact lK
  ·trivial
 |lenS x=>simp only[gA];split <;> simp[Q.plain]
 |lenV x=>exact lK
 |lenC m=>exact rfl
 |mm b as=>
  simp only[gA]
  split
  ·exact lK
  ·trivial
 |nck x=>simp only[gA];split <;> simp[Q.plain]
 |slV sz x l h mx=>
  cases mx with
  |some m=>simp[lv]at h
  |none=>
   simp only[gA]
   split
   ·trivial
   ·split
    ·unfold yq
     split
     ·split <;> simp[Q.bind,Q.plain]
     ·split <;> simp[Q.bind,Q.plain]
     ·split <;> simp[Q.bind,Q.plain]
     ·trivial
    ·rename_i hh;exact absurd hh (by simp)
    ·trivial
 |_=>simp[lv]at h
def ke(E:Env)(call:qz)(n:Nat)(ds:List (List Nat×fe))(g8:List FP)(x:Option St):Option St:=x.bind (fN E call n ds g8)
def meets(u:List Nat)(g8:List FP)(fp:FP):Bool:=u.all fun i=>apart (fU ⟨true,[],[]⟩ g8 i) fp
section
variable{E:Env}{call:qz}{n:Nat}{fr:Fr}{lh:fC fg}{sh:List fg}{ds:List (List Nat×fe)}{g8:List FP}{u:List Nat}{d:Option Nat}
theorem UT{st:St}:ke E call n ds g8 (some st)=fN E call n ds g8 st:=rfl
theorem akz:ke E call n ds g8 none=none:=rfl
theorem Mv{fp:FP}:meets [] g8 fp=true:=rfl
theorem Iy{i:Nat}{fp:FP}:meets (i::u) g8 fp=(apart (fU ⟨true,[],[]⟩ g8 i) fp&&meets u g8 fp):=rfl
theorem wM:meets u g8 mL=true:=by
 unfold meets
 rw[List.all_eq_true]
 intro i _
 exact AR _
theorem Mw{st:St}:DC E n (.draws ds) st=(fN E (fj E) n ds [] st).map fun gj=>(.nrm,gj):=Gg
theorem tn{o:fe}{fp:FP}{st:St}(h:gh E call n o st≠none→gK E call o st=some fp):
  fN E call n ((u,o)::ds) g8 st=if meets u g8 fp=true then ke E call n ds (g8++ [fp]) (fi E call n [o] st)else none:=by
 simp only[fN]
 unfold meets ke
 cases ho:gh E call n o st with
 |none=>
  have h1:fi E call n [o] st=none:=by simp only[fi,ho]
  rw[h1]
  cases gK E call o st with
  |none=>simp
  |some fp'=>simp
 |some s=>
  have h1:fi E call n [o] st=some s:=by simp only[fi,ho]
  rw[h1,h (by rw[ho];simp)]
  rfl
theorem vD{op:kG}{st:St}{q:Q zl}(AH:gD st.rho op=none)(hq:gA (d.getD 0) st.rho op=q)(jC:gh E call n ⟨d,op,none⟩ st≠none):
  ∃v ups,q.run st.get st.sh.length=some (.val v ups)∧((q.asks st.get st.sh.length||uk st ups)=true→gK E call ⟨d,op,none⟩ st=some ⟨q.asks st.get st.sh.length,q.log st.get st.sh.length,iB ups⟩):=by
 subst hq
 unfold gh at jC
 simp only[AH]at jC
 cases hh:(gA (d.getD 0) st.rho op).run st.get st.sh.length with
 |none=>simp only[hh]at jC;exact absurd rfl jC
 |some r=>
  obtain⟨v,ups⟩:=r
  refine⟨v,ups,rfl,fun ha=> ?_⟩
  unfold gK
  simp only[AH,hh]
  rw[if_pos ha]
theorem aaE{op:kG}(hp:lv op=true):fN E call n ((u,⟨d,op,none⟩)::ds) g8 ⟨fr,lh,sh⟩=ke E call n ds (g8++ [mL]) (fi E call n [⟨d,op,none⟩] ⟨fr,lh,sh⟩):=by
 rw[tn (fp:=mL),wM,if_pos rfl]
 intro jC
 obtain⟨hq,AH⟩:=Qe (d:=d.getD 0) (ρ:=(St.mk fr lh sh).rho) hp
 unfold gh at jC
 unfold gK
 simp only[AH]at jC ⊢
 cases hh:(gA (d.getD 0) (St.mk fr lh sh).rho op).run (St.mk fr lh sh).get sh.length with
 |none=>simp only[hh]at jC;exact absurd rfl jC
 |some r=>
  obtain⟨v,ups⟩:=r
  obtain⟨rfl,ha,hl⟩:=Q.plain_run _ hq hh
  simp only[ha,hl,uk,List.all_nil,Bool.or_true,if_true,iB,List.map_nil]
  rfl
def qS:T→List (Sp×Nat)
 | .ptr sp k _ _=> [(sp,k)]
 |_=> []
theorem Qf{cs:List T}:qS (.vp cs)= []:=rfl
theorem Mx{sp:Sp}{k g off:Nat}:qS (.ptr sp k g off)= [(sp,k)]:=rfl
theorem Q.log_bind{α β:Type}{h:Sp→Nat→fg}{nx:Nat}{f:α→Q β}(hf: ∀a,(f a).log h nx= []): ∀q:Q α,(q.bind f).log h nx=q.log h nx
 | .ret a=>hf a
 | .fail=>rfl
 | .rd sp k g=>by show(sp,k)::((g (h sp k)).bind f).log h nx=(sp,k)::(g (h sp k)).log h nx;rw[Q.log_bind hf (g (h sp k))]
 | .new g=>Q.log_bind hf (g nx)
theorem amY{x:fM}{m:Nat}{ag:Bool}:fN E call n ((u,⟨d,.ld x m ag,none⟩)::ds) g8 ⟨fr,lh,sh⟩=
  if meets u g8 ⟨false,qS (rd fr x),[]⟩=true then ke E call n ds (g8++ [⟨false,qS (rd fr x),[]⟩]) (fi E call n [⟨d,.ld x m ag,none⟩] ⟨fr,lh,sh⟩)else none:=by
 refine tn ?_
 intro jC
 obtain⟨hq,AH⟩:=D0 (d:=d.getD 0) (ρ:=(St.mk fr lh sh).rho) (op:= .ld x m ag) rfl
 unfold gh at jC
 unfold gK
 simp only[AH]at jC ⊢
 cases hh:(gA (d.getD 0) (St.mk fr lh sh).rho (.ld x m ag)).run (St.mk fr lh sh).get sh.length with
 |none=>simp only[hh]at jC;exact absurd rfl jC
 |some r=>
  obtain⟨v,ups⟩:=r
  obtain⟨rfl,ha⟩:=Q.calm_run _ hq hh
  have hl:(gA (d.getD 0) (St.mk fr lh sh).rho (.ld x m ag)).log (St.mk fr lh sh).get sh.length=qS (rd fr x):=by
   rw[jE]
   simp only[gA]
   rw[Q.log_bind (fun a=>rfl)]
   unfold DF qS
   cases hx:rd fr x <;> try rfl
   ·simp only[];generalize Ev.part _ _ _ _=o;cases o <;> rfl
   ·rename_i sp k g off
    simp only[Q.log]
    congr 1
    generalize (St.mk fr lh sh).get sp k=e
    obtain⟨g',ob⟩:=e
    by_cases hg:g'=g
    ·cases ob with
     |cells cs wm bx=>simp only[hg,if_true];generalize Ev.part _ _ _ _=o;cases o <;> rfl
     |_=>simp only[hg,if_true];rfl
    ·simp only[hg,if_false];rfl
  simp only[ha,hl,uk,List.all_nil,Bool.or_true,if_true,iB,List.map_nil]
theorem CR{keep:Bool}{m:Nat}{h:Sp→Nat→fg}{nx:Nat}: ∀(ts:List T),ts.all froz=true→(gk (fz keep (m+2)) ts).log h nx= []
 | [],_=>rfl
 |t::ts,hh=>by
  simp only[List.all_cons,Bool.and_eq_true]at hh
  simp only[gk,oC hh.1,Q.bind]
  rw[Q.log_bind (fun a=>rfl),CR ts hh.2]
theorem Zb{f:Nat}{af:fv}{as:List fM}(hf:E.fn f=some af)(he:af.eff=false)(hw:af.own=none)(hz:(as.map (rd fr)).all froz=true):
  fN E call n ((u,⟨d,.callf f as,none⟩)::ds) g8 ⟨fr,lh,sh⟩=ke E call n ds (g8++ [mL]) (fi E call n [⟨d,.callf f as,none⟩] ⟨fr,lh,sh⟩):=by
 rw[tn (fp:=mL),wM,if_pos rfl]
 intro jC
 unfold gh at jC
 unfold gK
 have AH:gD (St.mk fr lh sh).rho (.callf f as)=some (some (f,as.map (rd fr))):=by rw[jE];rfl
 simp only[AH]at jC ⊢
 rw[Fk hf he hw hz]at jC
 unfold jJ
 have h1:(gk (fz af.eff fJ) (as.map (rd fr))).run (St.mk fr lh sh).get sh.length=some (as.map (rd fr),[]):=by
  have:=tM (lh:=lh) (sh:=sh) (keep:=af.eff) hz
  unfold Fo at this
  rw[vB];exact this
 simp only[hf]
 rw[h1]
 simp only[uk,List.all_nil,Bool.not_true,Bool.false_eq_true,if_false,he,hw]
 cases hc:call f (as.map (rd fr)) []with
 |none=>rw[hc]at jC;exact absurd rfl jC
 |some r=>
  simp only[iB,List.map_nil,ite_self]
  have:(gk (fz false fJ) (as.map (rd fr))).log (St.mk fr lh sh).get sh.length= []:=CR _ hz
  rw[this];rfl
theorem ahK{z:List T}{len:Nat}{ps:List (Nat×fM)}(hz:(ps.map fun p=>rd fr p.2).all froz=true):
  fN E call n ((u,⟨d,.bsl z len ps,none⟩)::ds) g8 ⟨fr,lh,sh⟩=ke E call n ds (g8++ [mL]) (fi E call n [⟨d,.bsl z len ps,none⟩] ⟨fr,lh,sh⟩):=by
 rw[tn (fp:=mL),wM,if_pos rfl]
 intro jC
 have h1:gk (fz false fJ) (ps.map fun p=>rd fr p.2)= .ret (ps.map (fun p=>rd fr p.2),[]):=by
  have: ∀(ts:List T),ts.all froz=true→gk (fz false fJ) ts= .ret (ts,[]):=by
   intro ts
   induction ts with
   |nil=>intro _;rfl
   |cons t ts ih=>
    intro hh
    simp only[List.all_cons,Bool.and_eq_true]at hh
    rw[gk,ih hh.2]
    unfold fJ
    rw[oC hh.1];rfl
  exact this _ hz
 obtain⟨v,ups,hr,iJ⟩:=vD (q:=if((ps.map fun p=>rd fr p.2).all fun v=>decide ((cellsOf v).length=z.length)&&noTup v)=true then(match px (repl z len) ((ps.map fun p=>p.1*z.length).zip ((ps.map fun p=>rd fr p.2).map cellsOf))with|some cs=>Q.ret (.val (.sl cs len true) [])|none=> .fail)else .fail) (by rfl) (by rw[jE];simp only[gA];rw[h1];rfl) jC
 split at hr
 ·split at hr
  ·simp[Q.run]at hr
   obtain⟨rfl,rfl⟩:=hr
   rename_i hb _ _ y8
   rw[if_pos hb,y8]at iJ
   exact iJ rfl
  ·simp[Q.run]at hr
 ·simp[Q.run]at hr
theorem UU{dd:Nat}{z:List T}:fN E call n ((u,⟨some dd,.alloc z false,none⟩)::ds) g8 ⟨fr,lh,sh⟩=
  if meets u g8 ⟨false,[(.L,dd)],[(.L,dd)]⟩=true then ke E call n ds (g8++ [⟨false,[(.L,dd)],[(.L,dd)]⟩]) (fi E call n [⟨some dd,.alloc z false,none⟩] ⟨fr,lh,sh⟩)else none:=
 tn fun _=>rfl
theorem aaF{dd:Nat}{z:List T}{bytes:Nat}{x:fM}:fN E call n ((u,⟨some dd,.mksl z bytes x false,none⟩)::ds) g8 ⟨fr,lh,sh⟩=
  if meets u g8 ⟨false,[(.L,dd)],[(.L,dd)]⟩=true then ke E call n ds (g8++ [⟨false,[(.L,dd)],[(.L,dd)]⟩]) (fi E call n [⟨some dd,.mksl z bytes x false,none⟩] ⟨fr,lh,sh⟩)else none:=by
 refine tn fun jC=> ?_
 cases ha:asNat (rd fr x)with
 |none=>
  obtain⟨v,ups,hr,iJ⟩:=vD (q:= .fail) (by rfl) (by rw[jE];simp only[gA,ha]) jC
  simp[Q.run]at hr
 |some k=>
  obtain⟨v,ups,hr,iJ⟩:=vD (q:=if k*bytes≤roomy&&k≤roomy then nP dd false (.cells (repl z k) 0 false) (fun sp k' g=> .isl sp k' g 0 k z.length)else .fail) (by rfl) (by rw[jE];simp only[gA,ha];rfl) jC
  split at hr
  ·rename_i hb
   rw[if_pos hb]at iJ
   simp[nP,Q.run]at hr
   obtain⟨rfl,rfl⟩:=hr
   exact iJ rfl
  ·simp[Q.run]at hr
def UW:T→Bool
 | .ptr .L .. =>true
 |_=>false
theorem Qg{k g off:Nat}:UW (.ptr .L k g off)=true:=nr rfl
theorem amZ{x v:fM}{m:Nat}(hx:UW (rd fr x)=true)(hz:froz (rd fr v)=true):fN E call n ((u,⟨none,.st x v m,none⟩)::ds) g8 ⟨fr,lh,sh⟩=
  if meets u g8 ⟨false,qS (rd fr x),qS (rd fr x)⟩=true then ke E call n ds (g8++ [⟨false,qS (rd fr x),qS (rd fr x)⟩]) (fi E call n [⟨none,.st x v m,none⟩] ⟨fr,lh,sh⟩)else none:=by
 refine tn fun jC=> ?_
 cases vf:rd fr x with
 |ptr sp k g off=>
  cases sp with
  |S=>rw[vf]at hx;simp[UW]at hx
  |L=>
   by_cases hb:(decide ((cellsOf (rd fr v)).length≠m)|| !noTup (rd fr v))=true
   ·obtain⟨w,ups,hr,iJ⟩:=vD (q:= .fail) (by rfl) (by rw[jE];simp only[gA,sr,vf];rw[if_pos hb]) jC
    simp[Q.run]at hr
   ·obtain⟨w,ups,hr,iJ⟩:=vD (q:= .rd .L k (T4 k g off m (rd fr v))) (by rfl) (by rw[jE];simp only[gA,sr,vf];rw[if_neg hb];rfl) jC
    simp only[Q.run,Q.log,Q.asks,Kh]at hr iJ
    generalize be lh k=e at hr iJ
    obtain⟨g',ob⟩:=e
    unfold T4 at hr iJ
    by_cases hg:g'=g
    ·cases ob with
     |none=>simp[hg,Q.run]at hr
     |map ks vs z=>simp[hg,Q.run]at hr
     |cells cs wm bx=>
      simp only[hg,if_true]at hr iJ
      split at hr
      ·rename_i hc
       rw[if_pos hc]at iJ
       cases bx with
       |true=>
        simp[Q.run]at hr
        obtain⟨rfl,rfl⟩:=hr
        exact iJ rfl
       |false=>
        unfold fJ at hr iJ
        simp only[Bool.false_and,Bool.false_eq_true,if_false]at hr iJ
        rw[oC hz]at hr iJ
        simp only[Q.bind]at hr iJ
        split at hr
        ·simp[Q.run]at hr
        ·rename_i hd
         rw[if_neg hd]at iJ
         simp[Q.run]at hr
         obtain⟨rfl,rfl⟩:=hr
         exact iJ rfl
      ·simp[Q.run]at hr
    ·simp only[hg,if_false,Q.run]at hr
     cases hr
 |_=>rw[vf]at hx;simp[UW]at hx
theorem Ks{op:kG}{j:Nat}{w:Bool}(h:an fr j= .b w):fN E call n ((u,⟨d,op,some (j,w)⟩)::ds) g8 ⟨fr,lh,sh⟩=fN E call n ((u,⟨d,op,none⟩)::ds) g8 ⟨fr,lh,sh⟩:=by
 simp only[fN,gK,gh,h,if_true]
theorem Qh{op:kG}{j:Nat}(h:an fr j= .b true):fN E call n ((u,⟨d,op,some (j,true)⟩)::ds) g8 ⟨fr,lh,sh⟩=fN E call n ((u,⟨d,op,none⟩)::ds) g8 ⟨fr,lh,sh⟩:=Ks h
theorem Qi{op:kG}{j:Nat}(h:an fr j= .b false):fN E call n ((u,⟨d,op,some (j,false)⟩)::ds) g8 ⟨fr,lh,sh⟩=fN E call n ((u,⟨d,op,none⟩)::ds) g8 ⟨fr,lh,sh⟩:=Ks h
theorem D4{op:kG}{j:Nat}{w:Bool}(hd:CI n d)(h:an fr j= .b (!w)∨an fr j=gf):fN E call n ((u,⟨d,op,some (j,w)⟩)::ds) g8 ⟨fr,lh,sh⟩=fN E call n ds (g8++ [mL]) ⟨vA fr d gf,lh,sh⟩:=by
 have iJ:gK E call ⟨d,op,some (j,w)⟩ ⟨fr,lh,sh⟩=some mL:=by
  unfold gK
  rcases h with h|h
  ·simp only[h];rw[if_neg (by cases w <;> simp)]
  ·simp only[h,gf]
 rw[tn (fp:=mL) (fun _=>iJ),wM,if_pos rfl]
 rcases h with h|h
 ·rw[Iq hd h];rfl
 ·rw[Km hd h];rfl
theorem Qj{dd:Nat}{op:kG}{j:Nat}(hd:dd<n)(h:an fr j= .b false):fN E call n ((u,⟨some dd,op,some (j,true)⟩)::ds) g8 ⟨fr,lh,sh⟩=fN E call n ds (g8++ [mL]) ⟨iG fr dd gf,lh,sh⟩:=D4 (d:=some dd) hd (Or.inl h)
theorem Qk{dd:Nat}{op:kG}{j:Nat}(hd:dd<n)(h:an fr j= .b true):fN E call n ((u,⟨some dd,op,some (j,false)⟩)::ds) g8 ⟨fr,lh,sh⟩=fN E call n ds (g8++ [mL]) ⟨iG fr dd gf,lh,sh⟩:=D4 (d:=some dd) hd (Or.inl h)
theorem Ql{dd:Nat}{op:kG}{j:Nat}{w:Bool}(hd:dd<n)(h:an fr j=gf):fN E call n ((u,⟨some dd,op,some (j,w)⟩)::ds) g8 ⟨fr,lh,sh⟩=fN E call n ds (g8++ [mL]) ⟨iG fr dd gf,lh,sh⟩:=D4 (d:=some dd) hd (Or.inr h)
end
end Go.Ev
namespace Go.Ev
open Go
def fzW(m:Nat)(lh:fC fg)(sh:List fg)(keep:Bool)(v:T):Option (T×List Up):=(fz keep (m+1) v).run (St.mk .nil lh sh).get sh.length
def B8(m:Nat)(lh:fC fg)(sh:List fg)(keep:Bool)(vs:List T):Option (List T×List Up):=(gk (fz keep (m+1)) vs).run (St.mk .nil lh sh).get sh.length
section
variable{m:Nat}{lh:fC fg}{sh:List fg}{keep:Bool}
theorem CS{v:T}(h:froz1 v=true):fzW m lh sh keep v=some (v,[]):=by unfold fzW;rw[tK h];rfl
theorem Kt{k g off len sz:Nat}:fzW m lh sh keep (.isl .L k g off len sz)=PG m lh sh k (be lh k) g off len sz:=by
 cases keep <;> exact ahl (be lh k)
theorem aaG{k g:Nat}:fzW m lh sh keep (.mp .L k g)=mpV k (be lh k) g:=by
 cases keep <;> exact mpQ (be lh k)
theorem Qm:B8 m lh sh keep []=some ([],[]):=rfl
theorem My{v:T}{vs:List T}:B8 m lh sh keep (v::vs)=(fzW m lh sh keep v).bind fun p=>(B8 m lh sh keep vs).bind fun q=>some (p.1::q.1,p.2++q.2):=by
 unfold B8 fzW
 rw[gk,gJ]
 congr 1
 funext p
 rw[gJ]
 rfl
theorem Qn{cs:List T}:fzV lh sh keep (.agg cs)=(B8 6 lh sh keep cs).map fun q=>(.agg q.1,q.2):=T1
theorem Qo{cs:List T}:fzV lh sh keep (.tup cs)=(B8 6 lh sh keep cs).map fun q=>(.tup q.1,q.2):=T2
theorem Qp{cs:List T}:fzW (m+1) lh sh keep (.agg cs)=(B8 m lh sh keep cs).map fun q=>(.agg q.1,q.2):=by
 unfold fzW B8
 rw[DY,gJ]
 cases (gk (fz keep (m+1)) cs).run (St.mk .nil lh sh).get sh.length <;> rfl
theorem Qq{eff:Bool}{v:T}:PM lh sh eff [v]=(fzV lh sh eff v).map fun p=>(p.1,((St.mk .nil lh sh).ups p.2).sh):=rfl
theorem Mz{eff:Bool}{v u:T}{vs:List T}:PM lh sh eff (v::u::vs)=(fzV lh sh eff (.tup (v::u::vs))).map fun p=>(p.1,((St.mk .nil lh sh).ups p.2).sh):=rfl
theorem ahL{k g g' off m wm:Nat}{cs:List T}{v:T}:T3 lh sh k ⟨g',.cells cs wm false⟩ g off v m=if g'=g∧(cellsOf v).length=m∧noTup v=true∧wm≤off∧off+m≤cs.length then
   (fzV lh sh false v).bind fun p=>if mM p.2 .L k=true∨noTup p.1=false∨(cellsOf p.1).length≠m then none else some (((St.mk .nil lh sh).ups (p.2++ [(.L,k,⟨g,.cells (splice cs off (cellsOf p.1)) wm false⟩)])).lh,((St.mk .nil lh sh).ups (p.2++ [(.L,k,⟨g,.cells (splice cs off (cellsOf p.1)) wm false⟩)])).sh)
  else none:=rfl
end
theorem ahM{x y:List Nat}:tB (.one .str) (.s x) (.s y)=some (decide (x=y)):=by
 simp only[tB,jD,Bool.beq_eq_decide_eq]
theorem ahN{k:IntKind}{x y:Int}:tB (.one .int) (.i k x) (.i k y)=some (decide (x=y)):=by
 simp only[tB,jD,if_true,Bool.beq_eq_decide_eq]
theorem aaH{k:IntKind}{x y:Int}{s t:List Nat}:tB (.flat [.int,.str]) (.agg [.i k x,.s s]) (.agg [.i k y,.s t])=some (decide (x=y∧s=t)):=by
 simp only[tB,iq,jD,if_true,Bool.beq_eq_decide_eq]
 by_cases h:x=y
 ·by_cases h2:s=t <;> simp only[h,h2,decide_true,decide_false,and_self,and_false]
 ·simp only[h,decide_false,false_and]
theorem wN{x:List Nat}:isKey (.one .str) (.s x)=true:=nr rfl
theorem Yl{k:IntKind}{x:Int}:isKey (.one .int) (.i k x)=true:=nr rfl
theorem Iz{k:IntKind}{x:Int}{s:List Nat}:isKey (.flat [.int,.str]) (.agg [.i k x,.s s])=true:=nr rfl
theorem ahO{kk:EK}{k:T}:kB kk k []=some none:=rfl
def ahP(r:Option Bool)(rest:Option (Option Nat)):Option (Option Nat):=
 match r with
 |some true=>some (some 0)
 |some false=>rest.map fun r=>r.map (· +1)
 |none=>none
theorem MA{kk:EK}{k x:T}{xs:List T}:kB kk k (x::xs)=ahP (tB kk k x) (kB kk k xs):=rfl
def lkF(vs:List T)(z:T)(ok:Bool)(r:Option (Option Nat)):Option T:=
 match r with
 |some (some i)=>vs[i]?.map fun v=>if ok=true then .tup [v,.b true]else v
 |some none=>some (if ok=true then .tup [z,.b false]else z)
 |none=>none
theorem Ku{kk:EK}{ks vs:List T}{k z:T}{ok:Bool}(h:isKey kk k=true):mX kk ks vs k z ok=lkF vs z ok (kB kk k ks):=by
 unfold mX lkF
 simp only[h,Bool.not_true,Bool.false_eq_true,if_false]
 cases kB kk k ks with
 |none=>rfl
 |some o=>cases o <;> rfl
theorem Gr{vs:List T}{z:T}{ok:Bool}{i:Nat}:lkF vs z ok (some (some i))=vs[i]?.map fun v=>if ok=true then .tup [v,.b true]else v:=rfl
theorem ahQ{vs:List T}{z:T}{ok:Bool}:lkF vs z ok (some none)=some (if ok=true then .tup [z,.b false]else z):=rfl
def UX(ks vs:List T)(k v:T)(r:Option (Option Nat)):Option (List T×List T):=
 match r with
 |some (some i)=>some (ks.set i k,vs.set i v)
 |some none=>some (ks++ [k],vs++ [v])
 |none=>none
theorem UY{kk:EK}{ks vs:List T}{k v:T}:pH kk k v ks vs=UX ks vs k v (kB kk k ks):=by
 unfold pH UX
 cases kB kk k ks with
 |none=>rfl
 |some o=>cases o <;> rfl
theorem acX{ks vs:List T}{k v:T}{i:Nat}:UX ks vs k v (some (some i))=some (ks.set i k,vs.set i v):=rfl
theorem MB{ks vs:List T}{k v:T}:UX ks vs k v (some none)=some (ks++ [k],vs++ [v]):=rfl
theorem gI{g g':Nat}{ks vs:List T}{z:Bool}{ek:EK}{k u:T}{ok:Bool}:lkE ⟨g',.map ks vs z⟩ g ek k u ok=if g'=g then mX ek ks vs k u ok else none:=rfl
theorem pM{lh:fC fg}{kk g g':Nat}{ks vs:List T}{ek:EK}{k v:T}:muE lh kk ⟨g',.map ks vs false⟩ g ek k v=if g'=g∧isKey ek k=true then(pH ek k v ks vs).map fun q=>qm lh kk ⟨g,.map q.1 q.2 false⟩else none:=rfl
end Go.Ev
namespace Go.Ev
open Go
section
variable{E:Env}{call:qz}{n:Nat}{fr:Fr}{lh:fC fg}{sh:List fg}{os:List fe}{d:Nat}
theorem Qr{z:List T}(hd:d<n):fi E call n (⟨some d,.alloc z true,none⟩::os) ⟨fr,lh,sh⟩=fi E call n os ⟨iG fr d (.ptr .S sh.length 1 0),lh,il sh sh.length ⟨1,.cells z 0 true⟩⟩:=by
 rw[qn (by rfl) (show CI n (some d)from hd)];rfl
theorem Qs(hd:d<n):fi E call n (⟨some d,.mkmap true,none⟩::os) ⟨fr,lh,sh⟩=fi E call n os ⟨iG fr d (.mp .S sh.length 1),lh,il sh sh.length ⟨1,.map [] [] false⟩⟩:=by
 rw[qn (by rfl) (show CI n (some d)from hd)];rfl
theorem MC{e:fg}{l:List fg}:gC (e::l) 0=e:=rfl
theorem acY{e:fg}{l:List fg}{k:Nat}:gC (e::l) (k+1)=gC l k:=rfl
theorem ahR{k:Nat}:gC [] k=jq:=rfl
theorem Qt{v:fg}:il [] 0 v= [v]:=rfl
theorem MD{e v:fg}{l:List fg}:il (e::l) 0 v=v::l:=rfl
theorem rT{e v:fg}{l:List fg}{k:Nat}:il (e::l) (k+1) v=e::il l k v:=rfl
def AS(lh:fC fg)(sh:List fg)(k:Nat)(e:fg)(g off:Nat)(v:T)(m:Nat):Option (fC fg×List fg):=
 match e with
 |⟨g',.cells cs wm bx⟩=>if g'=g∧(cellsOf v).length=m∧noTup v=true∧wm≤off∧off+m≤cs.length then some (lh,il sh k ⟨g,.cells (splice cs off (cellsOf v)) wm bx⟩)else none
 |_=>none
def ME(k g off m:Nat)(v:T)(e:fg):Q zl:=if e.g=g then match e.ob with
     | .cells cs wm bx=>if wm≤off&&off+m≤cs.length then
         (if bx&&Sp.S== .L then .ret (.val gf [(Sp.S,k,⟨g,.cells (splice cs off (cellsOf v)) wm bx⟩)])
         else(fz (bx&&Sp.S== .S) fJ v).bind fun p=>if mM p.2 .S k|| !noTup p.1||(cellsOf p.1).length≠m then .fail else .ret (.val gf (p.2++ [(Sp.S,k,⟨g,.cells (splice cs off (cellsOf p.1)) wm bx⟩)])))
       else .fail
     |_=> .fail
    else .fail
theorem UZ{k g off m:Nat}{v:T}(e:fg)(h1:(cellsOf v).length=m)(h2:noTup v=true)(hz:froz v=true):jP lh sh (Q.run (St.mk .nil lh sh).get sh.length (ME k g off m v e))=AS lh sh k e g off v m:=by
 obtain⟨g',ob⟩:=e
 unfold AS ME
 by_cases hg:g'=g
 ·subst hg
  cases ob with
  |none=>simp[Q.run,jP]
  |map ks vs z=>simp[Q.run,jP]
  |cells cs wm bx=>
   by_cases hb:wm≤off∧off+m≤cs.length
   ·have Nx:(decide (wm≤off)&&decide (off+m≤cs.length))=true:=by simp[hb.1,hb.2]
    have SK:(bx&&Sp.S==Sp.L)=false:=by cases bx <;> rfl
    unfold fJ
    simp only[if_true,Nx,SK,Bool.false_eq_true,if_false]
    rw[oC hz]
    have lU:(mM [] Sp.S k|| !noTup v||decide ((cellsOf v).length≠m))=false:=by simp[mM,h1,h2]
    simp only[Q.bind,lU,Bool.false_eq_true,if_false,Q.run,jP]
    rw[if_pos ⟨trivial,h1,h2,hb⟩]
    rfl
   ·have Nx:(decide (wm≤off)&&decide (off+m≤cs.length))=false:=by
     cases hx:(decide (wm≤off)&&decide (off+m≤cs.length))with
     |false=>rfl
     |true=>simp at hx;exact absurd hx hb
    simp only[if_true,Nx,Bool.false_eq_true,if_false,Q.run,jP]
    rw[if_neg (by rintro⟨_,_,_,a⟩;exact hb a)]
 ·cases ob with
  |none=>simp[hg,Q.run,jP]
  |map ks vs z=>simp[hg,Q.run,jP]
  |cells cs wm bx=>simp[hg,Q.run,jP]
theorem ahS{k g off m:Nat}{v:T}(hz:froz v=true):sI lh sh (.ptr .S k g off) v m=AS lh sh k (gC sh k) g off v m:=by
 by_cases h1:(cellsOf v).length=m
 ·cases h2:noTup v with
  |false=>
   unfold sI sr
   have:(decide ((cellsOf v).length≠m)|| !noTup v)=true:=by simp[h2]
   simp only[this,if_true,Q.run]
   unfold AS
   split <;> simp[h2]
  |true=>
   unfold sI sr
   have:(decide ((cellsOf v).length≠m)|| !noTup v)=false:=by simp[h1,h2]
   simp only[this,Bool.false_eq_true,if_false]
   exact UZ (gC sh k) h1 h2 hz
 ·unfold sI sr
  have:(decide ((cellsOf v).length≠m)|| !noTup v)=true:=by simp[h1]
  simp only[this,if_true,Q.run]
  unfold AS
  split <;> simp[h1]
theorem IA{k g g' off m wm:Nat}{cs:List T}{bx:Bool}{v:T}:AS lh sh k ⟨g',.cells cs wm bx⟩ g off v m=if g'=g∧(cellsOf v).length=m∧noTup v=true∧wm≤off∧off+m≤cs.length then some (lh,il sh k ⟨g,.cells (splice cs off (cellsOf v)) wm bx⟩)else none:=rfl
end
section
variable{E:Env}{call:qz}{n:Nat}{fr:Fr}{lh:fC fg}{sh:List fg}{ds:List (List Nat×fe)}{g8:List FP}{u:List Nat}{d:Option Nat}
def qT:T→List (Sp×Nat)
 | .mp sp k _=> [(sp,k)]
 |_=> []
theorem Qu{sp:Sp}{k g:Nat}:qT (.mp sp k g)= [(sp,k)]:=rfl
theorem ahT{a b:List T}:qT (.vm a b)= []:=rfl
theorem Kv{h:Sp→Nat→fg}{nx:Nat}{o:Option T}:(val o).log h nx= []:=by cases o <;> rfl
theorem am0{ek:EK}{m k:fM}{z:T}{ok:Bool}:fN E call n ((u,⟨d,.lk ek m k z ok,none⟩)::ds) g8 ⟨fr,lh,sh⟩=
  if meets u g8 ⟨false,qT (rd fr m),[]⟩=true then ke E call n ds (g8++ [⟨false,qT (rd fr m),[]⟩]) (fi E call n [⟨d,.lk ek m k z ok,none⟩] ⟨fr,lh,sh⟩)else none:=by
 refine tn fun jC=> ?_
 obtain⟨hq,AH⟩:=D0 (d:=d.getD 0) (ρ:=(St.mk fr lh sh).rho) (op:= .lk ek m k z ok) rfl
 obtain⟨v,ups,hr,iJ⟩:=vD AH rfl jC
 obtain⟨rfl,ha⟩:=Q.calm_run _ hq hr
 have hl:(gA (d.getD 0) (St.mk fr lh sh).rho (.lk ek m k z ok)).log (St.mk fr lh sh).get sh.length=qT (rd fr m):=by
  rw[jE]
  simp only[gA]
  unfold qT
  cases hx:rd fr m <;> try rfl
  ·simp only[];split <;> rfl
  ·exact Kv
  ·rename_i sp kk g
   simp only[Q.log]
   congr 1
   generalize (St.mk fr lh sh).get sp kk=e
   obtain⟨g',ob⟩:=e
   by_cases hg:g'=g
   ·cases ob with
    |map ks vs zz=>simp only[hg,if_true];exact Kv
    |_=>simp only[hg,if_true];rfl
   ·simp only[hg,if_false];rfl
 have:=iJ (by rw[ha];simp[uk])
 rw[this,ha,hl];rfl
def U0:T→Bool
 | .mp .L .. =>true
 |_=>false
theorem U1{k g:Nat}:U0 (.mp .L k g)=true:=nr rfl
theorem am1{ek:EK}{m k v:fM}(hx:U0 (rd fr m)=true)(hz:froz (rd fr v)=true):fN E call n ((u,⟨none,.mu ek m k v,none⟩)::ds) g8 ⟨fr,lh,sh⟩=
  if meets u g8 ⟨false,qT (rd fr m),qT (rd fr m)⟩=true then ke E call n ds (g8++ [⟨false,qT (rd fr m),qT (rd fr m)⟩]) (fi E call n [⟨none,.mu ek m k v,none⟩] ⟨fr,lh,sh⟩)else none:=by
 refine tn fun jC=> ?_
 cases vf:rd fr m with
 |mp sp kk g=>
  cases sp with
  |S=>rw[vf]at hx;simp[U0]at hx
  |L=>
   obtain⟨w,ups,hr,iJ⟩:=vD (q:= .rd .L kk (T9 kk g ek (rd fr k) (rd fr v))) (by rfl) (by rw[jE];simp only[gA,vf];rfl) jC
   simp only[Q.run,Q.log,Q.asks,Kh]at hr iJ
   generalize be lh kk=e at hr iJ
   obtain⟨g',ob⟩:=e
   unfold T9 at hr iJ
   by_cases hg:(decide (g'=g)&&isKey ek (rd fr k))=true
   ·simp only[hg,if_true]at hr iJ
    cases ob with
    |none=>simp[Q.run]at hr
    |cells cs wm bx=>simp[Q.run]at hr
    |map ks vs zz=>
     cases zz with
     |true=>simp[Q.run]at hr
     |false=>
      simp only[]at hr iJ
      unfold fJ at hr iJ
      rw[oC hz]at hr iJ
      simp only[Q.bind]at hr iJ
      split at hr
      ·rename_i q hp
       simp only[mM,List.any_nil,Bool.false_eq_true,if_false,Q.run,Option.some.injEq,zl.val.injEq]at hr
       obtain⟨rfl,rfl⟩:=hr
       rw[hp]at iJ
       simp only[mM,List.any_nil,Bool.false_eq_true,if_false]at iJ
       exact iJ rfl
      ·simp[Q.run]at hr
   ·have X6:(decide (g'=g)&&isKey ek (rd fr k))=false:=by simpa using hg
    simp only[X6,Bool.false_eq_true,if_false,Q.run]at hr
    cases hr
 |_=>rw[vf]at hx;simp[U0]at hx
end
section
variable{E:Env}{call:qz}{n:Nat}{fr:Fr}{lh:fC fg}{sh:List fg}{ds:List (List Nat×fe)}{g8:List FP}{d:Option Nat}
theorem apI{st:St}{k:Nat}{e:fg}:uk st [(.L,k,e)]=true:=rfl
theorem U2{nm:Bool}{dd sz bytes:Nat}{s x:T}{v:T}{ups:List Up}{st:St}(hs:notS s=true)(h:(qe dd sz bytes s x false nm).run st.get st.sh.length=some (.val v ups)):uk st ups=true:=by
 unfold qe at h
 rw[gJ]at h
 cases hx:(gU sz x).run st.get st.sh.length with
 |none=>rw[hx]at h;cases h
 |some p=>
  rw[hx]at h
  simp only[Option.bind_some]at h
  split at h
  ·split at h
   ·simp[Q.run]at h;rw[h.2];rfl
   ·simp[Q.run]at h;rw[h.2];rfl
   ·simp[Q.run]at h;rw[h.2];rfl
   ·simp[Q.run]at h
  ·split at h
   ·split at h
    ·simp[nP,Q.run]at h;rw[←h.2];rfl
    ·simp[Q.run]at h
   ·split at h
    ·simp[nP,Q.run]at h;rw[←h.2];rfl
    ·simp[Q.run]at h
   ·rename_i sp k g off len pn
    cases sp with
    |S=>simp[notS]at hs
    |L=>
     split at h
     ·simp only[Q.run]at h
      split at h
      ·split at h
       ·split at h
        ·simp[Q.run]at h;rw[←h.2];rfl
        ·simp[Q.run]at h
       ·simp[Q.run]at h
      ·simp[Q.run]at h
     ·simp[Q.run]at h
   ·simp[Q.run]at h
def Wu:List (List Nat×fe)→Bool
 | []=>true
 |(u,_)::ds=>u.isEmpty&&Wu ds
theorem U3:Wu []=true:=nr rfl
theorem Qv{o:fe}{ds:List (List Nat×fe)}:Wu (([],o)::ds)=Wu ds:=nr rfl
theorem Gs: ∀(ds:List (List Nat×fe)) (g8 ahU:List FP) (st:St),Wu ds=true→fN E call n ds g8 st=fN E call n ds ahU st
 | [],_,_,_,_=>rfl
 |(u,o)::ds,g8,ahU,st,h=>by
  simp only[Wu,Bool.and_eq_true,List.isEmpty_iff]at h
  obtain⟨rfl,h⟩:=h
  simp only[fN,List.all_nil,if_true]
  cases gK E call o st with
  |none=>rfl
  |some fp=>
   simp only[]
   cases gh E call n o st with
   |none=>rfl
   |some s=>exact Gs ds _ _ s h
end
theorem AT(a:fm){E:Env}{n:Nat}{st:St}:DC E n (.loop a) st=andThen (DC E n a st) (DC E n (.loop a)):=oA
end Go.Ev
