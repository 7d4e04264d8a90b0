/- A tree evaluator over the model, proved against it (part F): where it answers, the call returns that answer. Conditions: none beyond its theorems' own. -/
import Derived.Test.YtfenhjpkomldcaaGreatEvE
set_option linter.unusedSimpArgs false
set_option linter.unusedVariables false
namespace Go.Ev
open Go
theorem TB{x:Bool}:froz (.b x)=true:=nr rfl
theorem TC{k:IntKind}{n:Int}:froz (.i k n)=true:=nr rfl
theorem TD{l:List Nat}:froz (.s l)=true:=nr rfl
theorem C1:froz .nilsl=true:=nr rfl
theorem NJ{cs:List T}{n:Nat}{e:Bool}:froz (.sl cs n e)=true:=nr rfl
theorem NK{cs:List T}:froz (.vp cs)=true:=nr rfl
theorem ml{cs:List T}:froz (.agg cs)=cs.all froz1:=nr rfl
theorem JK{cs:List T}:froz (.tup cs)=cs.all froz1:=nr rfl
theorem NL{f:Nat}{a c:List T}:froz (.fn f a c)=(a.all froz1&&c.all froz1):=nr rfl
theorem NM{x:Bool}:froz1 (.b x)=true:=nr rfl
theorem m4{k:IntKind}{n:Int}:froz1 (.i k n)=true:=nr rfl
theorem oN{l:List Nat}:froz1 (.s l)=true:=nr rfl
theorem AR:froz1 .nilsl=true:=nr rfl
theorem JL{cs:List T}{n:Nat}{e:Bool}:froz1 (.sl cs n e)=true:=nr rfl
theorem Gk{cs:List T}:cellsOf (.agg cs)=cs:=nr rfl
theorem NN{k:IntKind}{n:Int}:cellsOf (.i k n)= [.i k n]:=nr rfl
theorem NO{l:List Nat}:cellsOf (.s l)= [.s l]:=nr rfl
theorem AS:cellsOf .nilsl= [.nilsl]:=nr rfl
theorem JM{cs:List T}{n:Nat}{e:Bool}:cellsOf (.sl cs n e)= [.sl cs n e]:=nr rfl
theorem Gl{sp:Sp}{a b c d e:Nat}:cellsOf (.isl sp a b c d e)= [.isl sp a b c d e]:=nr rfl
theorem JN{cs:List T}:cellsOf (.vp cs)= [.vp cs]:=nr rfl
theorem JO{sp:Sp}{a b:Nat}:cellsOf (.mp sp a b)= [.mp sp a b]:=nr rfl
theorem Gm{cs:List T}:noTup (.agg cs)=true:=nr rfl
theorem NP{k:IntKind}{n:Int}:noTup (.i k n)=true:=nr rfl
theorem NQ{l:List Nat}:noTup (.s l)=true:=nr rfl
theorem AT:noTup .nilsl=true:=nr rfl
theorem JP{cs:List T}{n:Nat}{e:Bool}:noTup (.sl cs n e)=true:=nr rfl
theorem Gn{sp:Sp}{a b c d e:Nat}:noTup (.isl sp a b c d e)=true:=nr rfl
theorem JQ{cs:List T}:noTup (.vp cs)=true:=nr rfl
theorem JR{sp:Sp}{a b:Nat}:noTup (.mp sp a b)=true:=nr rfl
theorem NR{cs:List T}{n:Nat}{e:Bool}:notS (.sl cs n e)=true:=nr rfl
theorem NS{a b:Nat}:notS (.mp .L a b)=true:=nr rfl
theorem NT{cs:List T}{n:Nat}{e:Bool}:nD (.sl cs n e)=some n:=nr rfl
theorem JS:lenI .nilsl=some (.i .i64 0):=nr rfl
theorem NU{cs:List T}{n:Nat}{e:Bool}:lenI (.sl cs n e)=some (.i .i64 n):=nr rfl
theorem JT{sp:Sp}{a b c d e:Nat}:lenI (.isl sp a b c d e)=some (.i .i64 d):=nr rfl
theorem JU{k:IntKind}{n:Int}:scalar (.i k n)=true:=nr rfl
theorem C2{cs:List T}:scalar (.agg cs)=false:=nr rfl
section
variable{lh:aQ aB}{sh:List aB}{m g off k:Nat}{ag:Bool}
theorem TE{cs:List T}:LW lh sh (.vp cs) m ag=Ev.part cs 0 m ag:=rfl
theorem X3:LW lh sh (.ptr .L k g off) m ag=Tj (aq lh k) g off m ag:=rfl
theorem X4:LW lh sh (.ptr .S k g off) m ag=Tj (dg sh k) g off m ag:=rfl
theorem TF{cs:List T}:XD (.vp cs) off=if off≤cs.length then some (.vp (cs.drop off))else none:=rfl
theorem NV{sp:Sp}{o:Nat}:XD (.ptr sp k g o) off=some (.ptr sp k g (o+off)):=rfl
theorem JV{cs:List T}:acN (.agg cs) off m ag=Ev.part cs off m ag:=rfl
theorem NW{cs:List T}:CR (.vp cs)=some (.vp cs):=rfl
theorem JW{sp:Sp}{o:Nat}:CR (.ptr sp k g o)=some (.ptr sp k g o):=rfl
theorem NX{f:Nat}{a c:List T}:CR (.fn f a c)=some (.fn f a c):=rfl
theorem JX{vs:List T}:MS (.tup vs) m=vs[m]? :=rfl
theorem NY{l:List Nat}:Ez (.s l)=some (.i .i64 l.length):=rfl
theorem TG{kk kk':IntKind}{n:Int}:MQ kk (.i kk' n)=some (.i kk (wr kk n)):=rfl
theorem pM{m k g g' off len sz wm:Nat}{lh:aQ aB}{sh:List aB}{cs:List T}:Jv m lh sh k ⟨g',.cells cs wm false⟩ g off len sz=if g'=g∧off+len*sz≤cs.length then some (.sl ((cs.drop off).take (len*sz)) len false,[(.L,k,⟨g,.cells cs cs.length false⟩)])else none:=rfl
theorem NZ{k g g':Nat}{ks vs:List T}{z:Bool}:mpV k ⟨g',.map ks vs z⟩ g=if g'=g then some (.vm ks vs,[(.L,k,⟨g,.map ks vs true⟩)])else none:=rfl
theorem Gp{sz g g' off len wm:Nat}{cs:List T}:slE sz ⟨g',.cells cs wm false⟩ g off len=if g'=g∧off+len*sz≤cs.length then some (len,(cs.drop off).take (len*sz))else none:=rfl
theorem u7{g g' off len sz mb bytes wm:Nat}{p:Nat×List T}{cs:List T}:Gh lh k ⟨g',.cells cs wm false⟩ g off len sz mb bytes p=if mb=sz∧off=0∧(len+p.1)*bytes≤roomy∧g'=g∧len*sz=cs.length then some (.isl .L k (g+1) 0 (len+p.1) sz,cM lh k ⟨g+1,.cells (cs++p.2) wm false⟩)else none:=rfl
theorem AU{d sz bytes n:Nat}{cs:List T}:uY lh d sz bytes .nilsl (n+1,cs)=if(n+1)*bytes≤roomy then some (.isl .L d ((aq lh d).g+1) 0 (n+1) sz,cM lh d ⟨(aq lh d).g+1,.cells cs 0 false⟩)else none:=by
 unfold uY;rw[if_neg (Nat.succ_ne_zero n)]
theorem N0{d sz bytes n len:Nat}{cs qB:List T}:uY lh d sz bytes (.sl qB len true) (n+1,cs)=if qB.length=len*sz∧(len+(n+1))*bytes≤roomy then some (.isl .L d ((aq lh d).g+1) 0 (len+(n+1)) sz,cM lh d ⟨(aq lh d).g+1,.cells (qB++cs) 0 false⟩)else none:=by
 unfold uY;rw[if_neg (Nat.succ_ne_zero n)]
theorem AV{d sz mb bytes n g off len:Nat}{cs:List T}:uY lh d sz bytes (.isl .L k g off len mb) (n+1,cs)=Gh lh k (aq lh k) g off len sz mb bytes (n+1,cs):=by
 unfold uY;rw[if_neg (Nat.succ_ne_zero n)]
end
def ints(xs:List Int):List T:=xs.map (T.i .i64)
theorem kI(xs:List Int):(ints xs).length=xs.length:=by simp[ints]
theorem xk(xs:List Int)(k:Nat)(hk:k<xs.length):(ints xs).drop k=T.i .i64 xs[k]::(ints xs).drop (k+1):=by
 rw[List.drop_eq_getElem_cons (by rw[kI];exact hk)];simp[ints]
def aR(v:T)(n:Nat)(cs:List T):Prop:=(v= .nilsl∧n=0∧cs= [])∨ ∃ex,v= .sl cs n ex
theorem aR.len{v:T}{n:Nat}{cs:List T}(h:aR v n cs):nD v=some n:=by
 rcases h with⟨rfl,rfl,_⟩|⟨ex,rfl⟩ <;> rfl
theorem aR.lenI{v:T}{n:Nat}{cs:List T}(h:aR v n cs):lenI v=some (.i .i64 (n:Int)):=Nr h.len
theorem aR.froz1{v:T}{n:Nat}{cs:List T}(h:aR v n cs):froz1 v=true:=by
 rcases h with⟨rfl,_,_⟩|⟨ex,rfl⟩ <;> rfl
theorem aR.froz{v:T}{n:Nat}{cs:List T}(h:aR v n cs):froz v=true:=by
 rcases h with⟨rfl,_,_⟩|⟨ex,rfl⟩ <;> rfl
theorem aR.cells{v:T}{n:Nat}{cs:List T}(h:aR v n cs):cellsOf v= [v]:=by
 rcases h with⟨rfl,_,_⟩|⟨ex,rfl⟩ <;> rfl
theorem aR.noTup{v:T}{n:Nat}{cs:List T}(h:aR v n cs):noTup v=true:=by
 rcases h with⟨rfl,_,_⟩|⟨ex,rfl⟩ <;> rfl
theorem aR.ia{v:T}{n sz k:Nat}{cs:List T}{kk:IntKind}(h:aR v n cs)(hc:cs.length=n*sz)(hk:k<n):uW v (.i kk (k:Int)) sz=some (.vp (cs.drop (k*sz))):=by
 rcases h with⟨rfl,rfl,_⟩|⟨ex,rfl⟩
 ·omega
 ·have h3:(k+1)*sz≤cs.length:=by rw[hc];exact Nat.mul_le_mul_right sz hk
  rw[bW,Int.toNat_natCast,if_pos ⟨Int.natCast_nonneg k,hk,h3⟩]
end Go.Ev
namespace Go.Ev
open Go
section
variable(E:Env)(n:Nat)(b:aN)(fr:Fr)(lh:aQ aB)(sh:List aB)
noncomputable def cz:Fr:=match DC E n (.loop b) ⟨fr,lh,sh⟩with|some (_,st)=>st.fr|none=>fr
noncomputable def bK:aQ aB:=match DC E n (.loop b) ⟨fr,lh,sh⟩with|some (_,st)=>st.lh|none=>lh
noncomputable def cw:List aB:=match DC E n (.loop b) ⟨fr,lh,sh⟩with|some (_,st)=>st.sh|none=>sh
end
section
variable{E:Env}{n:Nat}{b:aN}{fr:Fr}{lh:aQ aB}{sh:List aB}{o:Out}
theorem JY{s:Nat}(h:(iJ (.loop b)).contains s=false):ak (cz E n b fr lh sh) s=ak fr s:=by
 unfold cz
 cases hd:DC E n (.loop b) ⟨fr,lh,sh⟩with
 |none=>rfl
 |some p=>obtain⟨o,st⟩:=p;exact Nb hd s h
def kV:List Nat→Nat
 | []=>0
 |s::ss=>(1 <<< s) ||| kV ss
theorem ED(s:Nat): ∀l:List Nat,s∈l→(kV l).testBit s=true
 | [],h=>by simp at h
 |x::xs,h=>by
  rw[kV,Nat.testBit_or]
  rcases List.mem_cons.1 h with h|h
  ·subst h
   have:(1 <<< s).testBit s=true:=by simp[Nat.testBit_shiftLeft]
   rw[this];rfl
  ·rw[ED s xs h];simp
theorem Gq{s:Nat}(h:(kV (iJ (.loop b)) >>> s)%2=0):ak (cz E n b fr lh sh) s=ak fr s:=by
 refine JY ?_
 cases hc:(iJ (.loop b)).contains s with
 |false=>rfl
 |true=>
  have h1:=ED s _ (List.contains_iff_mem.1 hc)
  rw[Nat.testBit,Nat.and_comm,Nat.and_one_is_mod,h]at h1
  simp at h1
theorem u9{bp:aQ aB}{br:List aB}{P:Fr→Prop}(h: ∃cO,DC E n (.loop b) ⟨fr,lh,sh⟩=some (o,⟨cO,bp,br⟩)∧P cO):
  DC E n (.loop b) ⟨fr,lh,sh⟩=some (o,⟨cz E n b fr lh sh,bp,br⟩)∧P (cz E n b fr lh sh):=by
 obtain⟨cO,h1,h2⟩:=h
 have:cz E n b fr lh sh=cO:=by unfold cz;rw[h1]
 rw[this];exact⟨h1,h2⟩
theorem Gr{P:Fr→aQ aB→List aB→Prop}(h: ∃cO bp br,DC E n (.loop b) ⟨fr,lh,sh⟩=some (o,⟨cO,bp,br⟩)∧P cO bp br):
  DC E n (.loop b) ⟨fr,lh,sh⟩=some (o,⟨cz E n b fr lh sh,bK E n b fr lh sh,cw E n b fr lh sh⟩)∧P (cz E n b fr lh sh) (bK E n b fr lh sh) (cw E n b fr lh sh):=by
 obtain⟨cO,bp,br,h1,h2⟩:=h
 have e1:cz E n b fr lh sh=cO:=by unfold cz;rw[h1]
 have e2:bK E n b fr lh sh=bp:=by unfold bK;rw[h1]
 have e3:cw E n b fr lh sh=br:=by unfold cw;rw[h1]
 rw[e1,e2,e3];exact⟨h1,h2⟩
end
end Go.Ev
namespace Go.Ev
open Go
section
variable{a:Int}
theorem N1{k k':IntKind}{b:Int}:Ev.bin .shr (.i k a) (.i k' b)=if b<0 then none else some (.i k (a.fdiv (2 ^ (min b.toNat k.bits)))):=by
 simp only[Ev.bin,uq]
end
theorem kJ{n:Int}(h:0≤n∧n≤18446744073709551615):wr .u64 n=n:=by unfold wr lo hi;exact if_pos h
end Go.Ev
namespace Go.Ev
open Go
theorem vb(x:FP):apart x dB=true:=by
 obtain⟨a,r,w⟩:=x
 simp[apart,fT,dB,Cl]
theorem C3(x:FP):apart dB x=true:=by
 obtain⟨a,r,w⟩:=x
 simp[apart,fT,dB,Cl]
theorem JZ{r r' w w':List (Sp×Nat)}:apart ⟨false,r,w⟩ ⟨false,r',w'⟩=(fT w r'&&fT w w'&&fT r w'):=by
 simp[apart]
theorem C4{ys:List (Sp×Nat)}:fT [] ys=true:=rfl
theorem AW{x:Sp×Nat}{xs ys:List (Sp×Nat)}:fT (x::xs) ys=(!ys.contains x&&fT xs ys):=rfl
theorem N2{x:Sp×Nat}:([]:List (Sp×Nat)).contains x=false:=rfl
theorem J0{a c:Sp}{b d:Nat}{ys:List (Sp×Nat)}:((c,d)::ys).contains (a,b)=((decide (a=c)&&decide (b=d))||ys.contains (a,b)):=by
 rw[List.contains_cons]
 have:((a,b)==(c,d))=(decide (a=c)&&decide (b=d)):=by
  cases a <;> cases c <;> by_cases h:b=d <;> simp[h]
 rw[this]
def fB:nu→Bool
 | .mv _| .pick .. | .bin .. | .eq .. | .un .. | .cvi .. | .mkfn .. | .build .. | .slS .. | .fa .. | .fld .. | .ia .. | .iaA .. | .ixS .. | .ixA .. | .ext .. | .lenS _| .lenV _| .lenC _| .mm .. | .nck _=>true
 | .slV _ _ _ _ none=>true
 |_=>false
theorem N3{x:bq}:fB (.mv x)=true:=nr rfl
theorem Gs{c a b:bq}:fB (.pick c a b)=true:=nr rfl
theorem J1{o:BinOp}{x y:bq}:fB (.bin o x y)=true:=nr rfl
theorem N4{o:UnOp}{x:bq}:fB (.un o x)=true:=nr rfl
theorem C5{z:List T}{ps:List (Nat×Nat×bq)}:fB (.build z ps)=true:=nr rfl
theorem N5{x:bq}{o:Nat}:fB (.fa x o)=true:=nr rfl
theorem N6{x y:bq}{m:Nat}:fB (.ia x y m)=true:=nr rfl
theorem J2{x:bq}{j:Nat}:fB (.ext x j)=true:=nr rfl
theorem Gt{x:bq}:fB (.lenV x)=true:=nr rfl
theorem N7{g:Bool}{as:List bq}:fB (.mm g as)=true:=nr rfl
theorem J3{x:bq}:fB (.nck x)=true:=nr rfl
theorem J4{m:Nat}{x:bq}{l h:Option bq}:fB (.slV m x l h none)=true:=nr rfl
def Q.plain:Q wP→Prop
 | .ret (.val _ ups)=>ups= []
 | .fail=>True
 | .rd _ _ _=>False
 | .new _=>False
theorem Q.plain_run{h:Sp→Nat→aB}{nx:Nat}: ∀(q:Q wP),q.plain→ ∀{v:T} {ups:List Up},q.run h nx=some (.val v ups)→ups= []∧q.asks h nx=false∧q.log h nx= []
 | .ret (.val _ _),hc,v,ups,hr=>by simp[Q.run]at hr;obtain⟨rfl,rfl⟩:=hr;exact⟨hc,rfl,rfl⟩
 | .fail,hc,v,ups,hr=>by simp[Q.run]at hr
 | .rd sp k f,hc,v,ups,hr=>hc.elim
 | .new f,hc,v,ups,hr=>hc.elim
theorem fN{o:Option T}:(val o).plain:=by cases o <;> simp[val,Q.plain]
theorem J5{d:Nat}{ρ:bq→T}{op:nu}(h:fB op=true):(bT d ρ op).plain∧bI ρ op=none:=by
 refine⟨?_,by cases op <;> first|rfl|(simp[fB]at h)⟩
 cases op with
 |mv x=>exact rfl
 |pick c a b=>simp only[bT];split <;> simp[Q.plain]
 |bin op x y=>exact fN
 |eq neg k x y=>exact fN
 |un op x=>exact fN
 |cvi k x=>simp only[bT];split <;> simp[Q.plain]
 |mkfn f a c=>exact rfl
 |build z ps=>
  simp only[bT]
  by_cases hb:(ps.all fun p=>decide ((cellsOf (ρ p.2.2)).length=p.2.1)&&noTup (ρ p.2.2))=true
  ·rw[if_pos hb];exact fN
  ·rw[if_neg hb];trivial
 |slS x l h=>
  simp only[bT]
  split
  ·split
   ·split <;> simp[Q.plain]
   ·trivial
  ·trivial
 |fa x off=>
  simp only[bT]
  split
  ·split <;> simp[Q.plain]
  ·exact rfl
  ·trivial
 |fld x off m ag=>
  simp only[bT]
  split
  ·exact fN
  ·trivial
 |ia x ix sz=>
  simp only[bT]
  split
  ·split <;> simp[Q.plain]
  ·split <;> simp[Q.plain]
  ·trivial
 |iaA x ix len sz=>
  simp only[bT]
  split
  ·split <;> simp[Q.plain]
  ·split <;> simp[Q.plain]
  ·trivial
 |ixS x ix=>
  simp only[bT]
  split
  ·split <;> simp[Q.plain]
  ·trivial
 |ixA x ix len sz ag=>
  simp only[bT]
  split
  ·split
   ·exact fN
   ·trivial
  ·trivial
 |ext x j=>
  simp only[bT]
  split
  ·exact fN
  ·trivial
 |lenS x=>simp only[bT];split <;> simp[Q.plain]
 |lenV x=>exact fN
 |lenC m=>exact rfl
 |mm b as=>
  simp only[bT]
  split
  ·exact fN
  ·trivial
 |nck x=>simp only[bT];split <;> simp[Q.plain]
 |slV sz x l h mx=>
  cases mx with
  |some m=>simp[fB]at h
  |none=>
   simp only[bT]
   split
   ·trivial
   ·split
    ·unfold sx
     split
     ·split <;> simp[Q.bind,Q.plain]
     ·split <;> simp[Q.bind,Q.plain]
     ·split <;> simp[Q.bind,Q.plain]
     ·trivial
    ·rename_i hh;exact absurd hh (by simp)
    ·trivial
 |_=>simp[fB]at h
def ke(E:Env)(call:lj)(n:Nat)(ds:List (List Nat×aT))(bL:List FP)(x:Option St):Option St:=x.bind (aL E call n ds bL)
def meets(u:List Nat)(bL:List FP)(fp:FP):Bool:=u.all fun i=>apart (aZ ⟨true,[],[]⟩ bL i) fp
section
variable{E:Env}{call:lj}{n:Nat}{fr:Fr}{lh:aQ aB}{sh:List aB}{ds:List (List Nat×aT)}{bL:List FP}{u:List Nat}{d:Option Nat}
theorem N8{st:St}:ke E call n ds bL (some st)=aL E call n ds bL st:=rfl
theorem N9:ke E call n ds bL none=none:=rfl
theorem TH{c:Prop}[Decidable c]{x y:Option St}:ke E call n ds bL (if c then x else y)=if c then ke E call n ds bL x else ke E call n ds bL y:=by split <;> rfl
theorem Gu{fp:FP}:meets [] bL fp=true:=rfl
theorem C6{i:Nat}{fp:FP}:meets (i::u) bL fp=(apart (aZ ⟨true,[],[]⟩ bL i) fp&&meets u bL fp):=rfl
theorem qN:meets u bL dB=true:=by
 unfold meets
 rw[List.all_eq_true]
 intro i _
 exact vb _
theorem Gv{st:St}:DC E n (.draws ds) st=(aL E (ai E) n ds [] st).map fun bD=>(.nrm,bD):=AL
theorem qO{o:aT}{fp:FP}{st:St}(h:bu E call n o st≠none→cj E call o st=some fp):
  aL E call n ((u,o)::ds) bL st=if meets u bL fp=true then ke E call n ds (bL++ [fp]) (au E call n [o] st)else none:=by
 simp only[aL]
 unfold meets ke
 cases ho:bu E call n o st with
 |none=>
  have h1:au E call n [o] st=none:=by simp only[au,ho]
  rw[h1]
  cases cj E call o st with
  |none=>simp
  |some fp'=>simp
 |some s=>
  have h1:au E call n [o] st=some s:=by simp only[au,ho]
  rw[h1,h (by rw[ho];simp)]
  rfl
theorem wx{op:nu}{st:St}{q:Q wP}(wu:bI st.rho op=none)(hq:bT (d.getD 0) st.rho op=q)(ev:bu E call n ⟨d,op,none⟩ st≠none):
  ∃v ups,q.run st.get st.sh.length=some (.val v ups)∧((q.asks st.get st.sh.length||pG st ups)=true→cj E call ⟨d,op,none⟩ st=some ⟨q.asks st.get st.sh.length,q.log st.get st.sh.length,cX ups⟩):=by
 subst hq
 unfold bu at ev
 simp only[wu]at ev
 cases hh:(bT (d.getD 0) st.rho op).run st.get st.sh.length with
 |none=>simp only[hh]at ev;exact absurd rfl ev
 |some r=>
  obtain⟨v,ups⟩:=r
  refine⟨v,ups,rfl,fun ha=> ?_⟩
  unfold cj
  simp only[wu,hh]
  rw[if_pos ha]
theorem TI{op:nu}(hp:fB op=true):aL E call n ((u,⟨d,op,none⟩)::ds) bL ⟨fr,lh,sh⟩=ke E call n ds (bL++ [dB]) (au E call n [⟨d,op,none⟩] ⟨fr,lh,sh⟩):=by
 rw[qO (fp:=dB),qN,if_pos rfl]
 intro ev
 obtain⟨hq,wu⟩:=J5 (d:=d.getD 0) (ρ:=(St.mk fr lh sh).rho) hp
 unfold bu at ev
 unfold cj
 simp only[wu]at ev ⊢
 cases hh:(bT (d.getD 0) (St.mk fr lh sh).rho op).run (St.mk fr lh sh).get sh.length with
 |none=>simp only[hh]at ev;exact absurd rfl ev
 |some r=>
  obtain⟨v,ups⟩:=r
  obtain⟨rfl,ha,hl⟩:=Q.plain_run _ hq hh
  simp only[ha,hl,pG,List.all_nil,Bool.or_true,if_true,cX,List.map_nil]
  rfl
def lA:T→List (Sp×Nat)
 | .ptr sp k _ _=> [(sp,k)]
 |_=> []
theorem J6{cs:List T}:lA (.vp cs)= []:=rfl
theorem Gw{sp:Sp}{k g off:Nat}:lA (.ptr sp k g off)= [(sp,k)]:=rfl
theorem Q.log_bind{α β:Type}{h:Sp→Nat→aB}{nx:Nat}{f:α→Q β}(hf: ∀a,(f a).log h nx= []): ∀q:Q α,(q.bind f).log h nx=q.log h nx
 | .ret a=>hf a
 | .fail=>rfl
 | .rd sp k g=>by show(sp,k)::((g (h sp k)).bind f).log h nx=(sp,k)::(g (h sp k)).log h nx;rw[Q.log_bind hf (g (h sp k))]
 | .new g=>Q.log_bind hf (g nx)
theorem ac6{x:bq}{m:Nat}{ag:Bool}:aL E call n ((u,⟨d,.ld x m ag,none⟩)::ds) bL ⟨fr,lh,sh⟩=
  if meets u bL ⟨false,lA (rd fr x),[]⟩=true then ke E call n ds (bL++ [⟨false,lA (rd fr x),[]⟩]) (au E call n [⟨d,.ld x m ag,none⟩] ⟨fr,lh,sh⟩)else none:=by
 refine qO ?_
 intro ev
 obtain⟨hq,wu⟩:=yD (d:=d.getD 0) (ρ:=(St.mk fr lh sh).rho) (op:= .ld x m ag) rfl
 unfold bu at ev
 unfold cj
 simp only[wu]at ev ⊢
 cases hh:(bT (d.getD 0) (St.mk fr lh sh).rho (.ld x m ag)).run (St.mk fr lh sh).get sh.length with
 |none=>simp only[hh]at ev;exact absurd rfl ev
 |some r=>
  obtain⟨v,ups⟩:=r
  obtain⟨rfl,ha⟩:=Q.calm_run _ hq hh
  have hl:(bT (d.getD 0) (St.mk fr lh sh).rho (.ld x m ag)).log (St.mk fr lh sh).get sh.length=lA (rd fr x):=by
   rw[eY]
   simp only[bT]
   rw[Q.log_bind (fun a=>rfl)]
   unfold x8 lA
   cases hx:rd fr x <;> try rfl
   ·simp only[];generalize Ev.part _ _ _ _=o;cases o <;> rfl
   ·rename_i sp k g off
    simp only[Q.log]
    congr 1
    generalize (St.mk fr lh sh).get sp k=e
    obtain⟨g',ob⟩:=e
    by_cases hg:g'=g
    ·cases ob with
     |cells cs wm bx=>simp only[hg,if_true];generalize Ev.part _ _ _ _=o;cases o <;> rfl
     |_=>simp only[hg,if_true];rfl
    ·simp only[hg,if_false];rfl
  simp only[ha,hl,pG,List.all_nil,Bool.or_true,if_true,cX,List.map_nil]
theorem xl{keep:Bool}{m:Nat}{h:Sp→Nat→aB}{nx:Nat}: ∀(ts:List T),ts.all froz=true→(bC (fz keep (m+2)) ts).log h nx= []
 | [],_=>rfl
 |t::ts,hh=>by
  simp only[List.all_cons,Bool.and_eq_true]at hh
  simp only[bC,lz hh.1,Q.bind]
  rw[Q.log_bind (fun a=>rfl),xl ts hh.2]
theorem dQ{f:Nat}{af:aE}{as:List bq}(hf:E.fn f=some af)(he:af.eff=false)(hw:af.own=none)(hz:(as.map (rd fr)).all froz=true):
  aL E call n ((u,⟨d,.callf f as,none⟩)::ds) bL ⟨fr,lh,sh⟩=ke E call n ds (bL++ [dB]) (au E call n [⟨d,.callf f as,none⟩] ⟨fr,lh,sh⟩):=by
 rw[qO (fp:=dB),qN,if_pos rfl]
 intro ev
 unfold bu at ev
 unfold cj
 have wu:bI (St.mk fr lh sh).rho (.callf f as)=some (some (f,as.map (rd fr))):=by rw[eY];rfl
 simp only[wu]at ev ⊢
 rw[av hf he hw hz]at ev
 unfold dV
 have h1:(bC (fz af.eff aU) (as.map (rd fr))).run (St.mk fr lh sh).get sh.length=some (as.map (rd fr),[]):=by
  have:=qM (lh:=lh) (sh:=sh) (keep:=af.eff) hz
  unfold rG at this
  rw[lS];exact this
 simp only[hf]
 rw[h1]
 simp only[pG,List.all_nil,Bool.not_true,Bool.false_eq_true,if_false,he,hw]
 cases hc:call f (as.map (rd fr)) []with
 |none=>rw[hc]at ev;exact absurd rfl ev
 |some r=>
  simp only[cX,List.map_nil,ite_self]
  have:(bC (fz false aU) (as.map (rd fr))).log (St.mk fr lh sh).get sh.length= []:=xl _ hz
  rw[this];rfl
theorem X5{z:List T}{len:Nat}{ps:List (Nat×bq)}(hz:(ps.map fun p=>rd fr p.2).all froz=true):
  aL E call n ((u,⟨d,.bsl z len ps,none⟩)::ds) bL ⟨fr,lh,sh⟩=ke E call n ds (bL++ [dB]) (au E call n [⟨d,.bsl z len ps,none⟩] ⟨fr,lh,sh⟩):=by
 rw[qO (fp:=dB),qN,if_pos rfl]
 intro ev
 have h1:bC (fz false aU) (ps.map fun p=>rd fr p.2)= .ret (ps.map (fun p=>rd fr p.2),[]):=by
  have: ∀(ts:List T),ts.all froz=true→bC (fz false aU) ts= .ret (ts,[]):=by
   intro ts
   induction ts with
   |nil=>intro _;rfl
   |cons t ts ih=>
    intro hh
    simp only[List.all_cons,Bool.and_eq_true]at hh
    rw[bC,ih hh.2]
    unfold aU
    rw[lz hh.1];rfl
  exact this _ hz
 obtain⟨v,ups,hr,fZ⟩:=wx (q:=if((ps.map fun p=>rd fr p.2).all fun v=>decide ((cellsOf v).length=z.length)&&noTup v)=true then(match aH (repl z len) ((ps.map fun p=>p.1*z.length).zip ((ps.map fun p=>rd fr p.2).map cellsOf))with|some cs=>Q.ret (.val (.sl cs len true) [])|none=> .fail)else .fail) (by rfl) (by rw[eY];simp only[bT];rw[h1];rfl) ev
 split at hr
 ·split at hr
  ·simp[Q.run]at hr
   obtain⟨rfl,rfl⟩:=hr
   rename_i hb _ _ CJ
   rw[if_pos hb,CJ]at fZ
   exact fZ rfl
  ·simp[Q.run]at hr
 ·simp[Q.run]at hr
theorem Oa{dd:Nat}{z:List T}:aL E call n ((u,⟨some dd,.alloc z false,none⟩)::ds) bL ⟨fr,lh,sh⟩=
  if meets u bL ⟨false,[(.L,dd)],[(.L,dd)]⟩=true then ke E call n ds (bL++ [⟨false,[(.L,dd)],[(.L,dd)]⟩]) (au E call n [⟨some dd,.alloc z false,none⟩] ⟨fr,lh,sh⟩)else none:=
 qO fun _=>rfl
theorem TJ{dd:Nat}{z:List T}{bytes:Nat}{x:bq}:aL E call n ((u,⟨some dd,.mksl z bytes x false,none⟩)::ds) bL ⟨fr,lh,sh⟩=
  if meets u bL ⟨false,[(.L,dd)],[(.L,dd)]⟩=true then ke E call n ds (bL++ [⟨false,[(.L,dd)],[(.L,dd)]⟩]) (au E call n [⟨some dd,.mksl z bytes x false,none⟩] ⟨fr,lh,sh⟩)else none:=by
 refine qO fun ev=> ?_
 cases ha:asNat (rd fr x)with
 |none=>
  obtain⟨v,ups,hr,fZ⟩:=wx (q:= .fail) (by rfl) (by rw[eY];simp only[bT,ha]) ev
  simp[Q.run]at hr
 |some k=>
  obtain⟨v,ups,hr,fZ⟩:=wx (q:=if k*bytes≤roomy&&k≤roomy then kz dd false (.cells (repl z k) 0 false) (fun sp k' g=> .isl sp k' g 0 k z.length)else .fail) (by rfl) (by rw[eY];simp only[bT,ha];rfl) ev
  split at hr
  ·rename_i hb
   rw[if_pos hb]at fZ
   simp[kz,Q.run]at hr
   obtain⟨rfl,rfl⟩:=hr
   exact fZ rfl
  ·simp[Q.run]at hr
def Oc:T→Bool
 | .ptr .L .. =>true
 |_=>false
theorem J7{k g off:Nat}:Oc (.ptr .L k g off)=true:=nr rfl
theorem ac7{x v:bq}{m:Nat}(hx:Oc (rd fr x)=true)(hz:froz (rd fr v)=true):aL E call n ((u,⟨none,.st x v m,none⟩)::ds) bL ⟨fr,lh,sh⟩=
  if meets u bL ⟨false,lA (rd fr x),lA (rd fr x)⟩=true then ke E call n ds (bL++ [⟨false,lA (rd fr x),lA (rd fr x)⟩]) (au E call n [⟨none,.st x v m,none⟩] ⟨fr,lh,sh⟩)else none:=by
 refine qO fun ev=> ?_
 cases wy:rd fr x with
 |ptr sp k g off=>
  cases sp with
  |S=>rw[wy]at hx;simp[Oc]at hx
  |L=>
   by_cases hb:(decide ((cellsOf (rd fr v)).length≠m)|| !noTup (rd fr v))=true
   ·obtain⟨w,ups,hr,fZ⟩:=wx (q:= .fail) (by rfl) (by rw[eY];simp only[bT,nS,wy];rw[if_pos hb]) ev
    simp[Q.run]at hr
   ·obtain⟨w,ups,hr,fZ⟩:=wx (q:= .rd .L k (M4 k g off m (rd fr v))) (by rfl) (by rw[eY];simp only[bT,nS,wy];rw[if_neg hb];rfl) ev
    simp only[Q.run,Q.log,Q.asks,MO]at hr fZ
    generalize aq lh k=e at hr fZ
    obtain⟨g',ob⟩:=e
    unfold M4 at hr fZ
    by_cases hg:g'=g
    ·cases ob with
     |none=>simp[hg,Q.run]at hr
     |map ks vs z=>simp[hg,Q.run]at hr
     |cells cs wm bx=>
      simp only[hg,if_true]at hr fZ
      split at hr
      ·rename_i hc
       rw[if_pos hc]at fZ
       cases bx with
       |true=>
        simp[Q.run]at hr
        obtain⟨rfl,rfl⟩:=hr
        exact fZ rfl
       |false=>
        unfold aU at hr fZ
        simp only[Bool.false_and,Bool.false_eq_true,if_false]at hr fZ
        rw[lz hz]at hr fZ
        simp only[Q.bind]at hr fZ
        split at hr
        ·simp[Q.run]at hr
        ·rename_i hd
         rw[if_neg hd]at fZ
         simp[Q.run]at hr
         obtain⟨rfl,rfl⟩:=hr
         exact fZ rfl
      ·simp[Q.run]at hr
    ·simp only[hg,if_false,Q.run]at hr
     cases hr
 |_=>rw[wy]at hx;simp[Oc]at hx
theorem EE{op:nu}{j:Nat}{w:Bool}(h:ak fr j= .b w):aL E call n ((u,⟨d,op,some (j,w)⟩)::ds) bL ⟨fr,lh,sh⟩=aL E call n ((u,⟨d,op,none⟩)::ds) bL ⟨fr,lh,sh⟩:=by
 simp only[aL,cj,bu,h,if_true]
theorem J8{op:nu}{j:Nat}(h:ak fr j= .b true):aL E call n ((u,⟨d,op,some (j,true)⟩)::ds) bL ⟨fr,lh,sh⟩=aL E call n ((u,⟨d,op,none⟩)::ds) bL ⟨fr,lh,sh⟩:=EE h
theorem J9{op:nu}{j:Nat}(h:ak fr j= .b false):aL E call n ((u,⟨d,op,some (j,false)⟩)::ds) bL ⟨fr,lh,sh⟩=aL E call n ((u,⟨d,op,none⟩)::ds) bL ⟨fr,lh,sh⟩:=EE h
theorem Od{op:nu}{j:Nat}{w:Bool}(hd:yz n d)(h:ak fr j= .b (!w)∨ak fr j=bA):aL E call n ((u,⟨d,op,some (j,w)⟩)::ds) bL ⟨fr,lh,sh⟩=aL E call n ds (bL++ [dB]) ⟨pf fr d bA,lh,sh⟩:=by
 have fZ:cj E call ⟨d,op,some (j,w)⟩ ⟨fr,lh,sh⟩=some dB:=by
  unfold cj
  rcases h with h|h
  ·simp only[h];rw[if_neg (by cases w <;> simp)]
  ·simp only[h,bA]
 rw[qO (fp:=dB) (fun _=>fZ),qN,if_pos rfl]
 rcases h with h|h
 ·rw[CV hd h];rfl
 ·rw[EC hd h];rfl
theorem Ka{dd:Nat}{op:nu}{j:Nat}(hd:dd<n)(h:ak fr j= .b false):aL E call n ((u,⟨some dd,op,some (j,true)⟩)::ds) bL ⟨fr,lh,sh⟩=aL E call n ds (bL++ [dB]) ⟨dp fr dd bA,lh,sh⟩:=Od (d:=some dd) hd (Or.inl h)
end
end Go.Ev
namespace Go.Ev
open Go
def fzW(m:Nat)(lh:aQ aB)(sh:List aB)(keep:Bool)(v:T):Option (T×List Up):=(fz keep (m+1) v).run (St.mk .nil lh sh).get sh.length
def AX(m:Nat)(lh:aQ aB)(sh:List aB)(keep:Bool)(vs:List T):Option (List T×List Up):=(bC (fz keep (m+1)) vs).run (St.mk .nil lh sh).get sh.length
section
variable{m:Nat}{lh:aQ aB}{sh:List aB}{keep:Bool}
theorem Gx{v:T}(h:froz1 v=true):fzW m lh sh keep v=some (v,[]):=by unfold fzW;rw[mj h];rfl
theorem EF{k g off len sz:Nat}:fzW m lh sh keep (.isl .L k g off len sz)=Jv m lh sh k (aq lh k) g off len sz:=by
 cases keep <;> exact XI (aq lh k)
theorem Kb:AX m lh sh keep []=some ([],[]):=rfl
theorem Gy{v:T}{vs:List T}:AX m lh sh keep (v::vs)=(fzW m lh sh keep v).bind fun p=>(AX m lh sh keep vs).bind fun q=>some (p.1::q.1,p.2++q.2):=by
 unfold AX fzW
 rw[bC,cG]
 congr 1
 funext p
 rw[cG]
 rfl
theorem Kc{cs:List T}:fzV lh sh keep (.agg cs)=(AX 6 lh sh keep cs).map fun q=>(.agg q.1,q.2):=MX
theorem Kd{cs:List T}:fzV lh sh keep (.tup cs)=(AX 6 lh sh keep cs).map fun q=>(.tup q.1,q.2):=MY
theorem Ke{cs:List T}:fzW (m+1) lh sh keep (.agg cs)=(AX m lh sh keep cs).map fun q=>(.agg q.1,q.2):=by
 unfold fzW AX
 rw[yB,cG]
 cases (bC (fz keep (m+1)) cs).run (St.mk .nil lh sh).get sh.length <;> rfl
theorem Kf{eff:Bool}{v:T}:JC lh sh eff [v]=(fzV lh sh eff v).map fun p=>(p.1,((St.mk .nil lh sh).ups p.2).sh):=rfl
theorem Gz{eff:Bool}{v u:T}{vs:List T}:JC lh sh eff (v::u::vs)=(fzV lh sh eff (.tup (v::u::vs))).map fun p=>(p.1,((St.mk .nil lh sh).ups p.2).sh):=rfl
theorem X6{k g g' off m wm:Nat}{cs:List T}{v:T}:MZ lh sh k ⟨g',.cells cs wm false⟩ g off v m=if g'=g∧(cellsOf v).length=m∧noTup v=true∧wm≤off∧off+m≤cs.length then
   (fzV lh sh false v).bind fun p=>if ib p.2 .L k=true∨noTup p.1=false∨(cellsOf p.1).length≠m then none else some (((St.mk .nil lh sh).ups (p.2++ [(.L,k,⟨g,.cells (splice cs off (cellsOf p.1)) wm false⟩)])).lh,((St.mk .nil lh sh).ups (p.2++ [(.L,k,⟨g,.cells (splice cs off (cellsOf p.1)) wm false⟩)])).sh)
  else none:=rfl
end
theorem X7{x y:List Nat}:mN (.one .str) (.s x) (.s y)=some (decide (x=y)):=by
 simp only[mN,dE,Bool.beq_eq_decide_eq]
theorem X8{k:IntKind}{x y:Int}:mN (.one .int) (.i k x) (.i k y)=some (decide (x=y)):=by
 simp only[mN,dE,if_true,Bool.beq_eq_decide_eq]
theorem TK{k:IntKind}{x y:Int}{s t:List Nat}:mN (.flat [.int,.str]) (.agg [.i k x,.s s]) (.agg [.i k y,.s t])=some (decide (x=y∧s=t)):=by
 simp only[mN,cK,dE,if_true,Bool.beq_eq_decide_eq]
 by_cases h:x=y
 ·by_cases h2:s=t <;> simp only[h,h2,decide_true,decide_false,and_self,and_false]
 ·simp only[h,decide_false,false_and]
theorem EG{x:List Nat}:isKey (.one .str) (.s x)=true:=nr rfl
theorem X9{k:IntKind}{x:Int}:isKey (.one .int) (.i k x)=true:=nr rfl
theorem C7{k:IntKind}{x:Int}{s:List Nat}:isKey (.flat [.int,.str]) (.agg [.i k x,.s s])=true:=nr rfl
theorem Ya{kk:EK}{k:T}:eM kk k []=some none:=rfl
def Yb(r:Option Bool)(rest:Option (Option Nat)):Option (Option Nat):=
 match r with
 |some true=>some (some 0)
 |some false=>rest.map fun r=>r.map (· +1)
 |none=>none
theorem GA{kk:EK}{k x:T}{xs:List T}:eM kk k (x::xs)=Yb (mN kk k x) (eM kk k xs):=rfl
def ZX(vs:List T)(z:T)(ok:Bool)(r:Option (Option Nat)):Option T:=
 match r with
 |some (some i)=>vs[i]?.map fun v=>if ok=true then .tup [v,.b true]else v
 |some none=>some (if ok=true then .tup [z,.b false]else z)
 |none=>none
theorem EH{kk:EK}{ks vs:List T}{k z:T}{ok:Bool}(h:isKey kk k=true):lN kk ks vs k z ok=ZX vs z ok (eM kk k ks):=by
 unfold lN ZX
 simp only[h,Bool.not_true,Bool.false_eq_true,if_false]
 cases eM kk k ks with
 |none=>rfl
 |some o=>cases o <;> rfl
theorem AY{vs:List T}{z:T}{ok:Bool}{i:Nat}:ZX vs z ok (some (some i))=vs[i]?.map fun v=>if ok=true then .tup [v,.b true]else v:=rfl
theorem Yc{vs:List T}{z:T}{ok:Bool}:ZX vs z ok (some none)=some (if ok=true then .tup [z,.b false]else z):=rfl
def Oe(ks vs:List T)(k v:T)(r:Option (Option Nat)):Option (List T×List T):=
 match r with
 |some (some i)=>some (ks.set i k,vs.set i v)
 |some none=>some (ks++ [k],vs++ [v])
 |none=>none
theorem Og{kk:EK}{ks vs:List T}{k v:T}:mO kk k v ks vs=Oe ks vs k v (eM kk k ks):=by
 unfold mO Oe
 cases eM kk k ks with
 |none=>rfl
 |some o=>cases o <;> rfl
theorem U9{ks vs:List T}{k v:T}{i:Nat}:Oe ks vs k v (some (some i))=some (ks.set i k,vs.set i v):=rfl
theorem GB{ks vs:List T}{k v:T}:Oe ks vs k v (some none)=some (ks++ [k],vs++ [v]):=rfl
theorem dU{g g':Nat}{ks vs:List T}{z:Bool}{ek:EK}{k u:T}{ok:Bool}:U6 ⟨g',.map ks vs z⟩ g ek k u ok=if g'=g then lN ek ks vs k u ok else none:=rfl
theorem qP{lh:aQ aB}{kk g g':Nat}{ks vs:List T}{ek:EK}{k v:T}:U7 lh kk ⟨g',.map ks vs false⟩ g ek k v=if g'=g∧isKey ek k=true then(mO ek k v ks vs).map fun q=>cM lh kk ⟨g,.map q.1 q.2 false⟩else none:=rfl
end Go.Ev
namespace Go.Ev
open Go
section
variable{E:Env}{call:lj}{n:Nat}{fr:Fr}{lh:aQ aB}{sh:List aB}{os:List aT}{d:Nat}
theorem Kg{z:List T}(hd:d<n):au E call n (⟨some d,.alloc z true,none⟩::os) ⟨fr,lh,sh⟩=au E call n os ⟨dp fr d (.ptr .S sh.length 1 0),lh,ky sh sh.length ⟨1,.cells z 0 true⟩⟩:=by
 rw[lv (by rfl) (show yz n (some d)from hd)];rfl
theorem Kh(hd:d<n):au E call n (⟨some d,.mkmap true,none⟩::os) ⟨fr,lh,sh⟩=au E call n os ⟨dp fr d (.mp .S sh.length 1),lh,ky sh sh.length ⟨1,.map [] [] false⟩⟩:=by
 rw[lv (by rfl) (show yz n (some d)from hd)];rfl
theorem GC{e:aB}{l:List aB}:dg (e::l) 0=e:=rfl
theorem GD{e:aB}{l:List aB}{k:Nat}:dg (e::l) (k+1)=dg l k:=rfl
theorem Ki{k:Nat}:dg [] k=jj:=rfl
theorem Kj{v:aB}:ky [] 0 v= [v]:=rfl
theorem GF{e v:aB}{l:List aB}:ky (e::l) 0 v=v::l:=rfl
theorem GG{e v:aB}{l:List aB}{k:Nat}:ky (e::l) (k+1) v=e::ky l k v:=rfl
def vd(lh:aQ aB)(sh:List aB)(k:Nat)(e:aB)(g off:Nat)(v:T)(m:Nat):Option (aQ aB×List aB):=
 match e with
 |⟨g',.cells cs wm bx⟩=>if g'=g∧(cellsOf v).length=m∧noTup v=true∧wm≤off∧off+m≤cs.length then some (lh,ky sh k ⟨g,.cells (splice cs off (cellsOf v)) wm bx⟩)else none
 |_=>none
def Oh(k g off m:Nat)(v:T)(e:aB):Q wP:=if e.g=g then match e.ob with
     | .cells cs wm bx=>if wm≤off&&off+m≤cs.length then
         (if bx&&Sp.S== .L then .ret (.val bA [(Sp.S,k,⟨g,.cells (splice cs off (cellsOf v)) wm bx⟩)])
         else(fz (bx&&Sp.S== .S) aU v).bind fun p=>if ib p.2 .S k|| !noTup p.1||(cellsOf p.1).length≠m then .fail else .ret (.val bA (p.2++ [(Sp.S,k,⟨g,.cells (splice cs off (cellsOf p.1)) wm bx⟩)])))
       else .fail
     |_=> .fail
    else .fail
theorem Oi{k g off m:Nat}{v:T}(e:aB)(h1:(cellsOf v).length=m)(h2:noTup v=true)(hz:froz v=true):dZ lh sh (Q.run (St.mk .nil lh sh).get sh.length (Oh k g off m v e))=vd lh sh k e g off v m:=by
 obtain⟨g',ob⟩:=e
 unfold vd Oh
 by_cases hg:g'=g
 ·subst hg
  cases ob with
  |none=>simp[Q.run,dZ]
  |map ks vs z=>simp[Q.run,dZ]
  |cells cs wm bx=>
   by_cases hb:wm≤off∧off+m≤cs.length
   ·have xf:(decide (wm≤off)&&decide (off+m≤cs.length))=true:=by simp[hb.1,hb.2]
    have LQ:(bx&&Sp.S==Sp.L)=false:=by cases bx <;> rfl
    unfold aU
    simp only[if_true,xf,LQ,Bool.false_eq_true,if_false]
    rw[lz hz]
    have fh:(ib [] Sp.S k|| !noTup v||decide ((cellsOf v).length≠m))=false:=by simp[ib,h1,h2]
    simp only[Q.bind,fh,Bool.false_eq_true,if_false,Q.run,dZ]
    rw[if_pos ⟨trivial,h1,h2,hb⟩]
    rfl
   ·have xf:(decide (wm≤off)&&decide (off+m≤cs.length))=false:=by
     cases hx:(decide (wm≤off)&&decide (off+m≤cs.length))with
     |false=>rfl
     |true=>simp at hx;exact absurd hx hb
    simp only[if_true,xf,Bool.false_eq_true,if_false,Q.run,dZ]
    rw[if_neg (by rintro⟨_,_,_,a⟩;exact hb a)]
 ·cases ob with
  |none=>simp[hg,Q.run,dZ]
  |map ks vs z=>simp[hg,Q.run,dZ]
  |cells cs wm bx=>simp[hg,Q.run,dZ]
theorem Yd{k g off m:Nat}{v:T}(hz:froz v=true):CT lh sh (.ptr .S k g off) v m=vd lh sh k (dg sh k) g off v m:=by
 by_cases h1:(cellsOf v).length=m
 ·cases h2:noTup v with
  |false=>
   unfold CT nS
   have:(decide ((cellsOf v).length≠m)|| !noTup v)=true:=by simp[h2]
   simp only[this,if_true,Q.run]
   unfold vd
   split <;> simp[h2]
  |true=>
   unfold CT nS
   have:(decide ((cellsOf v).length≠m)|| !noTup v)=false:=by simp[h1,h2]
   simp only[this,Bool.false_eq_true,if_false]
   exact Oi (dg sh k) h1 h2 hz
 ·unfold CT nS
  have:(decide ((cellsOf v).length≠m)|| !noTup v)=true:=by simp[h1]
  simp only[this,if_true,Q.run]
  unfold vd
  split <;> simp[h1]
theorem C8{k g g' off m wm:Nat}{cs:List T}{bx:Bool}{v:T}:vd lh sh k ⟨g',.cells cs wm bx⟩ g off v m=if g'=g∧(cellsOf v).length=m∧noTup v=true∧wm≤off∧off+m≤cs.length then some (lh,ky sh k ⟨g,.cells (splice cs off (cellsOf v)) wm bx⟩)else none:=rfl
end
section
variable{E:Env}{call:lj}{n:Nat}{fr:Fr}{lh:aQ aB}{sh:List aB}{ds:List (List Nat×aT)}{bL:List FP}{u:List Nat}{d:Option Nat}
def pz:T→List (Sp×Nat)
 | .mp sp k _=> [(sp,k)]
 |_=> []
theorem Kk{sp:Sp}{k g:Nat}:pz (.mp sp k g)= [(sp,k)]:=rfl
theorem Kl{a b:List T}:pz (.vm a b)= []:=rfl
theorem EI{h:Sp→Nat→aB}{nx:Nat}{o:Option T}:(val o).log h nx= []:=by cases o <;> rfl
theorem ac8{ek:EK}{m k:bq}{z:T}{ok:Bool}:aL E call n ((u,⟨d,.lk ek m k z ok,none⟩)::ds) bL ⟨fr,lh,sh⟩=
  if meets u bL ⟨false,pz (rd fr m),[]⟩=true then ke E call n ds (bL++ [⟨false,pz (rd fr m),[]⟩]) (au E call n [⟨d,.lk ek m k z ok,none⟩] ⟨fr,lh,sh⟩)else none:=by
 refine qO fun ev=> ?_
 obtain⟨hq,wu⟩:=yD (d:=d.getD 0) (ρ:=(St.mk fr lh sh).rho) (op:= .lk ek m k z ok) rfl
 obtain⟨v,ups,hr,fZ⟩:=wx wu rfl ev
 obtain⟨rfl,ha⟩:=Q.calm_run _ hq hr
 have hl:(bT (d.getD 0) (St.mk fr lh sh).rho (.lk ek m k z ok)).log (St.mk fr lh sh).get sh.length=pz (rd fr m):=by
  rw[eY]
  simp only[bT]
  unfold pz
  cases hx:rd fr m <;> try rfl
  ·simp only[];split <;> rfl
  ·exact EI
  ·rename_i sp kk g
   simp only[Q.log]
   congr 1
   generalize (St.mk fr lh sh).get sp kk=e
   obtain⟨g',ob⟩:=e
   by_cases hg:g'=g
   ·cases ob with
    |map ks vs zz=>simp only[hg,if_true];exact EI
    |_=>simp only[hg,if_true];rfl
   ·simp only[hg,if_false];rfl
 have:=fZ (by rw[ha];simp[pG])
 rw[this,ha,hl];rfl
def ahD:T→Bool
 | .mp .L .. =>true
 |_=>false
end
section
variable{E:Env}{call:lj}{n:Nat}{fr:Fr}{lh:aQ aB}{sh:List aB}{ds:List (List Nat×aT)}{bL:List FP}{d:Option Nat}
theorem afu{st:St}{k:Nat}{e:aB}:pG st [(.L,k,e)]=true:=rfl
theorem Oj{nm:Bool}{dd sz bytes:Nat}{s x:T}{v:T}{ups:List Up}{st:St}(hs:notS s=true)(h:(qh dd sz bytes s x false nm).run st.get st.sh.length=some (.val v ups)):pG st ups=true:=by
 unfold qh at h
 rw[cG]at h
 cases hx:(dF sz x).run st.get st.sh.length with
 |none=>rw[hx]at h;cases h
 |some p=>
  rw[hx]at h
  simp only[Option.bind_some]at h
  split at h
  ·split at h
   ·simp[Q.run]at h;rw[h.2];rfl
   ·simp[Q.run]at h;rw[h.2];rfl
   ·simp[Q.run]at h;rw[h.2];rfl
   ·simp[Q.run]at h
  ·split at h
   ·split at h
    ·simp[kz,Q.run]at h;rw[←h.2];rfl
    ·simp[Q.run]at h
   ·split at h
    ·simp[kz,Q.run]at h;rw[←h.2];rfl
    ·simp[Q.run]at h
   ·rename_i sp k g off len mb
    cases sp with
    |S=>simp[notS]at hs
    |L=>
     split at h
     ·simp only[Q.run]at h
      split at h
      ·split at h
       ·split at h
        ·simp[Q.run]at h;rw[←h.2];rfl
        ·simp[Q.run]at h
       ·simp[Q.run]at h
      ·simp[Q.run]at h
     ·simp[Q.run]at h
   ·simp[Q.run]at h
def Mf:List (List Nat×aT)→Bool
 | []=>true
 |(u,_)::ds=>u.isEmpty&&Mf ds
theorem Ok:Mf []=true:=nr rfl
theorem Km{o:aT}{ds:List (List Nat×aT)}:Mf (([],o)::ds)=Mf ds:=nr rfl
theorem AZ: ∀(ds:List (List Nat×aT)) (bL Ye:List FP) (st:St),Mf ds=true→aL E call n ds bL st=aL E call n ds Ye st
 | [],_,_,_,_=>rfl
 |(u,o)::ds,bL,Ye,st,h=>by
  simp only[Mf,Bool.and_eq_true,List.isEmpty_iff]at h
  obtain⟨rfl,h⟩:=h
  simp only[aL,List.all_nil,if_true]
  cases cj E call o st with
  |none=>rfl
  |some fp=>
   simp only[]
   cases bu E call n o st with
   |none=>rfl
   |some s=>exact AZ ds _ _ s h
end
end Go.Ev
