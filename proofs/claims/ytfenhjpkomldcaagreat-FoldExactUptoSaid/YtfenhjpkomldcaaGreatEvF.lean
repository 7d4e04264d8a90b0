/- A tree evaluator over the model, proved against it (part F): where it answers, the call returns that answer. Conditions: none beyond its theorems' own. -/
import Derived.Test.YtfenhjpkomldcaaGreatEvE
set_option linter.unusedSimpArgs false
set_option linter.unusedVariables false
namespace Go.Ev
open Go
theorem PT{x:Bool}:froz (.b x)=true:=nr rfl
theorem PU{k:IntKind}{n:Int}:froz (.i k n)=true:=nr rfl
theorem PV{l:List Nat}:froz (.s l)=true:=nr rfl
theorem zW:froz .nilsl=true:=nr rfl
theorem Kg{cs:List T}{n:Nat}{e:Bool}:froz (.sl cs n e)=true:=nr rfl
theorem Kh{cs:List T}:froz (.vp cs)=true:=nr rfl
theorem j2{cs:List T}:froz (.agg cs)=cs.all froz1:=nr rfl
theorem Gl{cs:List T}:froz (.tup cs)=cs.all froz1:=nr rfl
theorem Ki{f:Nat}{a c:List T}:froz (.fn f a c)=(a.all froz1&&c.all froz1):=nr rfl
theorem Kj{x:Bool}:froz1 (.b x)=true:=nr rfl
theorem kG{k:IntKind}{n:Int}:froz1 (.i k n)=true:=nr rfl
theorem l8{l:List Nat}:froz1 (.s l)=true:=nr rfl
theorem xC:froz1 .nilsl=true:=nr rfl
theorem Gm{cs:List T}{n:Nat}{e:Bool}:froz1 (.sl cs n e)=true:=nr rfl
theorem C8{cs:List T}:cellsOf (.agg cs)=cs:=nr rfl
theorem Kk{k:IntKind}{n:Int}:cellsOf (.i k n)= [.i k n]:=nr rfl
theorem Kl{l:List Nat}:cellsOf (.s l)= [.s l]:=nr rfl
theorem xD:cellsOf .nilsl= [.nilsl]:=nr rfl
theorem Gn{cs:List T}{n:Nat}{e:Bool}:cellsOf (.sl cs n e)= [.sl cs n e]:=nr rfl
theorem C9{sp:Sp}{a b c d e:Nat}:cellsOf (.isl sp a b c d e)= [.isl sp a b c d e]:=nr rfl
theorem Gp{cs:List T}:cellsOf (.vp cs)= [.vp cs]:=nr rfl
theorem Gq{sp:Sp}{a b:Nat}:cellsOf (.mp sp a b)= [.mp sp a b]:=nr rfl
theorem Da{cs:List T}:noTup (.agg cs)=true:=nr rfl
theorem Km{k:IntKind}{n:Int}:noTup (.i k n)=true:=nr rfl
theorem Kn{l:List Nat}:noTup (.s l)=true:=nr rfl
theorem xE:noTup .nilsl=true:=nr rfl
theorem Gr{cs:List T}{n:Nat}{e:Bool}:noTup (.sl cs n e)=true:=nr rfl
theorem Db{sp:Sp}{a b c d e:Nat}:noTup (.isl sp a b c d e)=true:=nr rfl
theorem Gs{cs:List T}:noTup (.vp cs)=true:=nr rfl
theorem Gt{sp:Sp}{a b:Nat}:noTup (.mp sp a b)=true:=nr rfl
theorem zX:notS .nilsl=true:=nr rfl
theorem Ko{cs:List T}{n:Nat}{e:Bool}:notS (.sl cs n e)=true:=nr rfl
theorem Gu{a b c d e:Nat}:notS (.isl .L a b c d e)=true:=nr rfl
theorem Gv:jH .nilsl=some 0:=nr rfl
theorem Kp{cs:List T}{n:Nat}{e:Bool}:jH (.sl cs n e)=some n:=nr rfl
theorem Gw:lenI .nilsl=some (.i .i64 0):=nr rfl
theorem Kq{cs:List T}{n:Nat}{e:Bool}:lenI (.sl cs n e)=some (.i .i64 n):=nr rfl
theorem Gx{sp:Sp}{a b c d e:Nat}:lenI (.isl sp a b c d e)=some (.i .i64 d):=nr rfl
theorem Gy{k:IntKind}{n:Int}:scalar (.i k n)=true:=nr rfl
theorem zY{cs:List T}:scalar (.agg cs)=false:=nr rfl
section
variable{lh:aQ aA}{sh:List aA}{m g off k:Nat}{ag:Bool}
theorem PW{cs:List T}:IH lh sh (.vp cs) m ag=Ev.part cs 0 m ag:=rfl
theorem Ui:IH lh sh (.ptr .L k g off) m ag=PC (aE lh k) g off m ag:=rfl
theorem Uj:IH lh sh (.ptr .S k g off) m ag=PC (ch sh k) g off m ag:=rfl
theorem PX{cs:List T}:TR (.vp cs) off=if off≤cs.length then some (.vp (cs.drop off))else none:=rfl
theorem Kr{sp:Sp}{o:Nat}:TR (.ptr sp k g o) off=some (.ptr sp k g (o+off)):=rfl
theorem Gz{cs:List T}:YW (.agg cs) off m ag=Ev.part cs off m ag:=rfl
theorem Ks{cs:List T}:zM (.vp cs)=some (.vp cs):=rfl
theorem GA{sp:Sp}{o:Nat}:zM (.ptr sp k g o)=some (.ptr sp k g o):=rfl
theorem Kt{f:Nat}{a c:List T}:zM (.fn f a c)=some (.fn f a c):=rfl
theorem GB{vs:List T}:Jy (.tup vs) m=vs[m]? :=rfl
theorem Ku{l:List Nat}:Bv (.s l)=some (.i .i64 l.length):=rfl
theorem PY{kk kk':IntKind}{n:Int}:Jw kk (.i kk' n)=some (.i kk (wr kk n)):=rfl
theorem mU{m k g g' off len sz wm:Nat}{lh:aQ aA}{sh:List aA}{cs:List T}:F5 m lh sh k ⟨g',.cells cs wm false⟩ g off len sz=if g'=g∧off+len*sz≤cs.length then some (.sl ((cs.drop off).take (len*sz)) len false,[(.L,k,⟨g,.cells cs cs.length false⟩)])else none:=rfl
theorem Kv{k g g':Nat}{ks vs:List T}{z:Bool}:mpV k ⟨g',.map ks vs z⟩ g=if g'=g then some (.vm ks vs,[(.L,k,⟨g,.map ks vs true⟩)])else none:=rfl
theorem Dc{sz g g' off len wm:Nat}{cs:List T}:slE sz ⟨g',.cells cs wm false⟩ g off len=if g'=g∧off+len*sz≤cs.length then some (len,(cs.drop off).take (len*sz))else none:=rfl
theorem rP{g g' off len sz jt bytes wm:Nat}{p:Nat×List T}{cs:List T}:C4 lh k ⟨g',.cells cs wm false⟩ g off len sz jt bytes p=if jt=sz∧off=0∧(len+p.1)*bytes≤roomy∧g'=g∧len*sz=cs.length then some (.isl .L k (g+1) 0 (len+p.1) sz,gh lh k ⟨g+1,.cells (cs++p.2) wm false⟩)else none:=rfl
theorem tO{d sz bytes:Nat}{cs:List T}{s:T}(h:(jH s).isSome=true):oZ lh d sz bytes s (0,cs)=some (s,lh):=by
 unfold oZ;rw[if_pos rfl];cases s <;> first|rfl|(simp[jH]at h)
theorem xF{d sz bytes n:Nat}{cs:List T}:oZ lh d sz bytes .nilsl (n+1,cs)=if(n+1)*bytes≤roomy then some (.isl .L d ((aE lh d).g+1) 0 (n+1) sz,gh lh d ⟨(aE lh d).g+1,.cells cs 0 false⟩)else none:=by
 unfold oZ;rw[if_neg (Nat.succ_ne_zero n)]
theorem Kw{d sz bytes n len:Nat}{cs mw:List T}:oZ lh d sz bytes (.sl mw len true) (n+1,cs)=if mw.length=len*sz∧(len+(n+1))*bytes≤roomy then some (.isl .L d ((aE lh d).g+1) 0 (len+(n+1)) sz,gh lh d ⟨(aE lh d).g+1,.cells (mw++cs) 0 false⟩)else none:=by
 unfold oZ;rw[if_neg (Nat.succ_ne_zero n)]
theorem xG{d sz jt bytes n g off len:Nat}{cs:List T}:oZ lh d sz bytes (.isl .L k g off len jt) (n+1,cs)=C4 lh k (aE lh k) g off len sz jt bytes (n+1,cs):=by
 unfold oZ;rw[if_neg (Nat.succ_ne_zero n)]
end
def ints(xs:List Int):List T:=xs.map (T.i .i64)
theorem iY(xs:List Int):(ints xs).length=xs.length:=by simp[ints]
theorem tP(xs:List Int)(k:Nat)(hk:k<xs.length):(ints xs).drop k=T.i .i64 xs[k]::(ints xs).drop (k+1):=by
 rw[List.drop_eq_getElem_cons (by rw[iY];exact hk)];simp[ints]
def aN(v:T)(n:Nat)(cs:List T):Prop:=(v= .nilsl∧n=0∧cs= [])∨ ∃ex,v= .sl cs n ex
theorem aN.len{v:T}{n:Nat}{cs:List T}(h:aN v n cs):jH v=some n:=by
 rcases h with⟨rfl,rfl,_⟩|⟨ex,rfl⟩ <;> rfl
theorem aN.lenI{v:T}{n:Nat}{cs:List T}(h:aN v n cs):lenI v=some (.i .i64 (n:Int)):=JZ h.len
theorem aN.froz1{v:T}{n:Nat}{cs:List T}(h:aN v n cs):froz1 v=true:=by
 rcases h with⟨rfl,_,_⟩|⟨ex,rfl⟩ <;> rfl
theorem aN.froz{v:T}{n:Nat}{cs:List T}(h:aN v n cs):froz v=true:=by
 rcases h with⟨rfl,_,_⟩|⟨ex,rfl⟩ <;> rfl
theorem aN.cells{v:T}{n:Nat}{cs:List T}(h:aN v n cs):cellsOf v= [v]:=by
 rcases h with⟨rfl,_,_⟩|⟨ex,rfl⟩ <;> rfl
theorem aN.noTup{v:T}{n:Nat}{cs:List T}(h:aN v n cs):noTup v=true:=by
 rcases h with⟨rfl,_,_⟩|⟨ex,rfl⟩ <;> rfl
theorem aN.ia{v:T}{n sz k:Nat}{cs:List T}{kk:IntKind}(h:aN v n cs)(hc:cs.length=n*sz)(hk:k<n):tJ v (.i kk (k:Int)) sz=some (.vp (cs.drop (k*sz))):=by
 rcases h with⟨rfl,rfl,_⟩|⟨ex,rfl⟩
 ·omega
 ·have h3:(k+1)*sz≤cs.length:=by rw[hc];exact Nat.mul_le_mul_right sz hk
  rw[bA,Int.toNat_natCast,if_pos ⟨Int.natCast_nonneg k,hk,h3⟩]
end Go.Ev
namespace Go.Ev
open Go
section
variable(E:Env)(n:Nat)(b:ba)(fr:Fr)(lh:aQ aA)(sh:List aA)
noncomputable def ev:Fr:=match DC E n (.loop b) ⟨fr,lh,sh⟩with|some (_,st)=>st.fr|none=>fr
noncomputable def eP:aQ aA:=match DC E n (.loop b) ⟨fr,lh,sh⟩with|some (_,st)=>st.lh|none=>lh
noncomputable def eJ:List aA:=match DC E n (.loop b) ⟨fr,lh,sh⟩with|some (_,st)=>st.sh|none=>sh
end
section
variable{E:Env}{n:Nat}{b:ba}{fr:Fr}{lh:aQ aA}{sh:List aA}{o:Out}
theorem GC{s:Nat}(h:(sJ (.loop b)).contains s=false):an (ev E n b fr lh sh) s=an fr s:=by
 unfold ev
 cases hd:DC E n (.loop b) ⟨fr,lh,sh⟩with
 |none=>rfl
 |some p=>obtain⟨o,st⟩:=p;exact JK hd s h
def Cf:List Nat→Nat
 | []=>0
 |s::ss=>(1 <<< s) ||| Cf ss
theorem BC(s:Nat): ∀l:List Nat,s∈l→(Cf l).testBit s=true
 | [],h=>by simp at h
 |x::xs,h=>by
  rw[Cf,Nat.testBit_or]
  rcases List.mem_cons.1 h with h|h
  ·subst h
   have:(1 <<< s).testBit s=true:=by simp[Nat.testBit_shiftLeft]
   rw[this];rfl
  ·rw[BC s xs h];simp
theorem Dd{s:Nat}(h:(Cf (sJ (.loop b)) >>> s)%2=0):an (ev E n b fr lh sh) s=an fr s:=by
 refine GC ?_
 cases hc:(sJ (.loop b)).contains s with
 |false=>rfl
 |true=>
  have h1:=BC s _ (List.contains_iff_mem.1 hc)
  rw[Nat.testBit,Nat.and_comm,Nat.and_one_is_mod,h]at h1
  simp at h1
theorem rQ{dj:aQ aA}{cq:List aA}{P:Fr→Prop}(h: ∃g7,DC E n (.loop b) ⟨fr,lh,sh⟩=some (o,⟨g7,dj,cq⟩)∧P g7):
  DC E n (.loop b) ⟨fr,lh,sh⟩=some (o,⟨ev E n b fr lh sh,dj,cq⟩)∧P (ev E n b fr lh sh):=by
 obtain⟨g7,h1,h2⟩:=h
 have:ev E n b fr lh sh=g7:=by unfold ev;rw[h1]
 rw[this];exact⟨h1,h2⟩
theorem De{P:Fr→aQ aA→List aA→Prop}(h: ∃g7 dj cq,DC E n (.loop b) ⟨fr,lh,sh⟩=some (o,⟨g7,dj,cq⟩)∧P g7 dj cq):
  DC E n (.loop b) ⟨fr,lh,sh⟩=some (o,⟨ev E n b fr lh sh,eP E n b fr lh sh,eJ E n b fr lh sh⟩)∧P (ev E n b fr lh sh) (eP E n b fr lh sh) (eJ E n b fr lh sh):=by
 obtain⟨g7,dj,cq,h1,h2⟩:=h
 have e1:ev E n b fr lh sh=g7:=by unfold ev;rw[h1]
 have e2:eP E n b fr lh sh=dj:=by unfold eP;rw[h1]
 have e3:eJ E n b fr lh sh=cq:=by unfold eJ;rw[h1]
 rw[e1,e2,e3];exact⟨h1,h2⟩
end
end Go.Ev
namespace Go.Ev
open Go
section
variable{a:Int}
theorem Kx{k k':IntKind}{b:Int}:Ev.bin .shr (.i k a) (.i k' b)=if b<0 then none else some (.i k (a.fdiv (2 ^ (min b.toNat k.bits)))):=by
 simp only[Ev.bin,qZ]
end
theorem iZ{n:Int}(h:0≤n∧n≤18446744073709551615):wr .u64 n=n:=by unfold wr lo hi;exact if_pos h
end Go.Ev
namespace Go.Ev
open Go
theorem rR(x:FP):apart x cG=true:=by
 obtain⟨a,r,w⟩:=x
 simp[apart,eY,cG,zh]
theorem zZ(x:FP):apart cG x=true:=by
 obtain⟨a,r,w⟩:=x
 simp[apart,eY,cG,zh]
theorem GD{r r' w w':List (Sp×Nat)}:apart ⟨false,r,w⟩ ⟨false,r',w'⟩=(eY w r'&&eY w w'&&eY r w'):=by
 simp[apart]
theorem z7{ys:List (Sp×Nat)}:eY [] ys=true:=rfl
theorem xH{x:Sp×Nat}{xs ys:List (Sp×Nat)}:eY (x::xs) ys=(!ys.contains x&&eY xs ys):=rfl
theorem Ky{x:Sp×Nat}:([]:List (Sp×Nat)).contains x=false:=rfl
theorem GF{a c:Sp}{b d:Nat}{ys:List (Sp×Nat)}:((c,d)::ys).contains (a,b)=((decide (a=c)&&decide (b=d))||ys.contains (a,b)):=by
 rw[List.contains_cons]
 have:((a,b)==(c,d))=(decide (a=c)&&decide (b=d)):=by
  cases a <;> cases c <;> by_cases h:b=d <;> simp[h]
 rw[this]
def eF:k7→Bool
 | .mv _| .pick .. | .bin .. | .eq .. | .un .. | .cvi .. | .mkfn .. | .build .. | .slS .. | .fa .. | .fld .. | .ia .. | .iaA .. | .ixS .. | .ixA .. | .ext .. | .lenS _| .lenV _| .lenC _| .mm .. | .nck _=>true
 | .slV _ _ _ _ none=>true
 |_=>false
theorem Kz{x:aZ}:eF (.mv x)=true:=nr rfl
theorem Df{c a b:aZ}:eF (.pick c a b)=true:=nr rfl
theorem GG{o:BinOp}{x y:aZ}:eF (.bin o x y)=true:=nr rfl
theorem KA{o:UnOp}{x:aZ}:eF (.un o x)=true:=nr rfl
theorem z8{z:List T}{ps:List (Nat×Nat×aZ)}:eF (.build z ps)=true:=nr rfl
theorem KB{x:aZ}{o:Nat}:eF (.fa x o)=true:=nr rfl
theorem KC{x y:aZ}{m:Nat}:eF (.ia x y m)=true:=nr rfl
theorem GH{x:aZ}{j:Nat}:eF (.ext x j)=true:=nr rfl
theorem Dg{x:aZ}:eF (.lenV x)=true:=nr rfl
theorem KD{g:Bool}{as:List aZ}:eF (.mm g as)=true:=nr rfl
theorem GI{x:aZ}:eF (.nck x)=true:=nr rfl
theorem GJ{m:Nat}{x:aZ}{l h:Option aZ}:eF (.slV m x l h none)=true:=nr rfl
def Q.plain:Q sL→Prop
 | .ret (.val _ ups)=>ups= []
 | .fail=>True
 | .rd _ _ _=>False
 | .new _=>False
theorem Q.plain_run{h:Sp→Nat→aA}{nx:Nat}: ∀(q:Q sL),q.plain→ ∀{v:T} {ups:List Up},q.run h nx=some (.val v ups)→ups= []∧q.asks h nx=false∧q.log h nx= []
 | .ret (.val _ _),hc,v,ups,hr=>by simp[Q.run]at hr;obtain⟨rfl,rfl⟩:=hr;exact⟨hc,rfl,rfl⟩
 | .fail,hc,v,ups,hr=>by simp[Q.run]at hr
 | .rd sp k f,hc,v,ups,hr=>hc.elim
 | .new f,hc,v,ups,hr=>hc.elim
theorem eQ{o:Option T}:(val o).plain:=by cases o <;> simp[val,Q.plain]
theorem GK{d:Nat}{ρ:aZ→T}{op:k7}(h:eF op=true):(bC d ρ op).plain∧bq ρ op=none:=by
 refine⟨?_,by cases op <;> first|rfl|(simp[eF]at h)⟩
 cases op with
 |mv x=>exact rfl
 |pick c a b=>simp only[bC];split <;> simp[Q.plain]
 |bin op x y=>exact eQ
 |eq neg k x y=>exact eQ
 |un op x=>exact eQ
 |cvi k x=>simp only[bC];split <;> simp[Q.plain]
 |mkfn f a c=>exact rfl
 |build z ps=>
  simp only[bC]
  by_cases hb:(ps.all fun p=>decide ((cellsOf (ρ p.2.2)).length=p.2.1)&&noTup (ρ p.2.2))=true
  ·rw[if_pos hb];exact eQ
  ·rw[if_neg hb];trivial
 |slS x l h=>
  simp only[bC]
  split
  ·split
   ·split <;> simp[Q.plain]
   ·trivial
  ·trivial
 |fa x off=>
  simp only[bC]
  split
  ·split <;> simp[Q.plain]
  ·exact rfl
  ·trivial
 |fld x off m ag=>
  simp only[bC]
  split
  ·exact eQ
  ·trivial
 |ia x ix sz=>
  simp only[bC]
  split
  ·split <;> simp[Q.plain]
  ·split <;> simp[Q.plain]
  ·trivial
 |iaA x ix len sz=>
  simp only[bC]
  split
  ·split <;> simp[Q.plain]
  ·split <;> simp[Q.plain]
  ·trivial
 |ixS x ix=>
  simp only[bC]
  split
  ·split <;> simp[Q.plain]
  ·trivial
 |ixA x ix len sz ag=>
  simp only[bC]
  split
  ·split
   ·exact eQ
   ·trivial
  ·trivial
 |ext x j=>
  simp only[bC]
  split
  ·exact eQ
  ·trivial
 |lenS x=>simp only[bC];split <;> simp[Q.plain]
 |lenV x=>exact eQ
 |lenC m=>exact rfl
 |mm b as=>
  simp only[bC]
  split
  ·exact eQ
  ·trivial
 |nck x=>simp only[bC];split <;> simp[Q.plain]
 |slV sz x l h mx=>
  cases mx with
  |some m=>simp[eF]at h
  |none=>
   simp only[bC]
   split
   ·trivial
   ·split
    ·unfold pH
     split
     ·split <;> simp[Q.bind,Q.plain]
     ·split <;> simp[Q.bind,Q.plain]
     ·split <;> simp[Q.bind,Q.plain]
     ·trivial
    ·rename_i hh;exact absurd hh (by simp)
    ·trivial
 |_=>simp[eF]at h
def ke(E:Env)(call:jk)(n:Nat)(ds:List (List Nat×aJ))(bo:List FP)(x:Option St):Option St:=x.bind (aH E call n ds bo)
def meets(u:List Nat)(bo:List FP)(fp:FP):Bool:=u.all fun i=>apart (aV ⟨true,[],[]⟩ bo i) fp
section
variable{E:Env}{call:jk}{n:Nat}{fr:Fr}{lh:aQ aA}{sh:List aA}{ds:List (List Nat×aJ)}{bo:List FP}{u:List Nat}{d:Option Nat}
theorem KE{st:St}:ke E call n ds bo (some st)=aH E call n ds bo st:=rfl
theorem KF:ke E call n ds bo none=none:=rfl
theorem PZ{c:Prop}[Decidable c]{x y:Option St}:ke E call n ds bo (if c then x else y)=if c then ke E call n ds bo x else ke E call n ds bo y:=by split <;> rfl
theorem Dh{fp:FP}:meets [] bo fp=true:=rfl
theorem Aa{i:Nat}{fp:FP}:meets (i::u) bo fp=(apart (aV ⟨true,[],[]⟩ bo i) fp&&meets u bo fp):=rfl
theorem nW:meets u bo cG=true:=by
 unfold meets
 rw[List.all_eq_true]
 intro i _
 exact rR _
theorem Di{st:St}:DC E n (.draws ds) st=(aH E (aa E) n ds [] st).map fun bn=>(.nrm,bn):=xu
theorem lG{o:aJ}{fp:FP}{st:St}(h:bg E call n o st≠none→bD E call o st=some fp):
  aH E call n ((u,o)::ds) bo st=if meets u bo fp=true then ke E call n ds (bo++ [fp]) (aq E call n [o] st)else none:=by
 simp only[aH]
 unfold meets ke
 cases ho:bg E call n o st with
 |none=>
  have h1:aq E call n [o] st=none:=by simp only[aq,ho]
  rw[h1]
  cases bD E call o st with
  |none=>simp
  |some fp'=>simp
 |some s=>
  have h1:aq E call n [o] st=some s:=by simp only[aq,ho]
  rw[h1,h (by rw[ho];simp)]
  rfl
theorem pc{op:k7}{st:St}{q:Q sL}(vb:bq st.rho op=none)(hq:bC (d.getD 0) st.rho op=q)(dr:bg E call n ⟨d,op,none⟩ st≠none):
  ∃v ups,q.run st.get st.sh.length=some (.val v ups)∧((q.asks st.get st.sh.length||lV st ups)=true→bD E call ⟨d,op,none⟩ st=some ⟨q.asks st.get st.sh.length,q.log st.get st.sh.length,cH ups⟩):=by
 subst hq
 unfold bg at dr
 simp only[vb]at dr
 cases hh:(bC (d.getD 0) st.rho op).run st.get st.sh.length with
 |none=>simp only[hh]at dr;exact absurd rfl dr
 |some r=>
  obtain⟨v,ups⟩:=r
  refine⟨v,ups,rfl,fun ha=> ?_⟩
  unfold bD
  simp only[vb,hh]
  rw[if_pos ha]
theorem P0{op:k7}(hp:eF op=true):aH E call n ((u,⟨d,op,none⟩)::ds) bo ⟨fr,lh,sh⟩=ke E call n ds (bo++ [cG]) (aq E call n [⟨d,op,none⟩] ⟨fr,lh,sh⟩):=by
 rw[lG (fp:=cG),nW,if_pos rfl]
 intro dr
 obtain⟨hq,vb⟩:=GK (d:=d.getD 0) (ρ:=(St.mk fr lh sh).rho) hp
 unfold bg at dr
 unfold bD
 simp only[vb]at dr ⊢
 cases hh:(bC (d.getD 0) (St.mk fr lh sh).rho op).run (St.mk fr lh sh).get sh.length with
 |none=>simp only[hh]at dr;exact absurd rfl dr
 |some r=>
  obtain⟨v,ups⟩:=r
  obtain⟨rfl,ha,hl⟩:=Q.plain_run _ hq hh
  simp only[ha,hl,lV,List.all_nil,Bool.or_true,if_true,cH,List.map_nil]
  rfl
def jB:T→List (Sp×Nat)
 | .ptr sp k _ _=> [(sp,k)]
 |_=> []
theorem GL{cs:List T}:jB (.vp cs)= []:=rfl
theorem Dj{sp:Sp}{k g off:Nat}:jB (.ptr sp k g off)= [(sp,k)]:=rfl
theorem Q.log_bind{α β:Type}{h:Sp→Nat→aA}{nx:Nat}{f:α→Q β}(hf: ∀a,(f a).log h nx= []): ∀q:Q α,(q.bind f).log h nx=q.log h nx
 | .ret a=>hf a
 | .fail=>rfl
 | .rd sp k g=>by show(sp,k)::((g (h sp k)).bind f).log h nx=(sp,k)::(g (h sp k)).log h nx;rw[Q.log_bind hf (g (h sp k))]
 | .new g=>Q.log_bind hf (g nx)
theorem Zd{x:aZ}{m:Nat}{ag:Bool}:aH E call n ((u,⟨d,.ld x m ag,none⟩)::ds) bo ⟨fr,lh,sh⟩=
  if meets u bo ⟨false,jB (rd fr x),[]⟩=true then ke E call n ds (bo++ [⟨false,jB (rd fr x),[]⟩]) (aq E call n [⟨d,.ld x m ag,none⟩] ⟨fr,lh,sh⟩)else none:=by
 refine lG ?_
 intro dr
 obtain⟨hq,vb⟩:=vi (d:=d.getD 0) (ρ:=(St.mk fr lh sh).rho) (op:= .ld x m ag) rfl
 unfold bg at dr
 unfold bD
 simp only[vb]at dr ⊢
 cases hh:(bC (d.getD 0) (St.mk fr lh sh).rho (.ld x m ag)).run (St.mk fr lh sh).get sh.length with
 |none=>simp only[hh]at dr;exact absurd rfl dr
 |some r=>
  obtain⟨v,ups⟩:=r
  obtain⟨rfl,ha⟩:=Q.calm_run _ hq hh
  have hl:(bC (d.getD 0) (St.mk fr lh sh).rho (.ld x m ag)).log (St.mk fr lh sh).get sh.length=jB (rd fr x):=by
   rw[dA]
   simp only[bC]
   rw[Q.log_bind (fun a=>rfl)]
   unfold uO jB
   cases hx:rd fr x <;> try rfl
   ·simp only[];generalize Ev.part _ _ _ _=o;cases o <;> rfl
   ·rename_i sp k g off
    simp only[Q.log]
    congr 1
    generalize (St.mk fr lh sh).get sp k=e
    obtain⟨g',ob⟩:=e
    by_cases hg:g'=g
    ·cases ob with
     |cells cs wm bx=>simp only[hg,if_true];generalize Ev.part _ _ _ _=o;cases o <;> rfl
     |_=>simp only[hg,if_true];rfl
    ·simp only[hg,if_false];rfl
  simp only[ha,hl,lV,List.all_nil,Bool.or_true,if_true,cH,List.map_nil]
theorem tQ{keep:Bool}{m:Nat}{h:Sp→Nat→aA}{nx:Nat}: ∀(ts:List T),ts.all froz=true→(bl (fz keep (m+2)) ts).log h nx= []
 | [],_=>rfl
 |t::ts,hh=>by
  simp only[List.all_cons,Bool.and_eq_true]at hh
  simp only[bl,kF hh.1,Q.bind]
  rw[Q.log_bind (fun a=>rfl),tQ ts hh.2]
theorem cU{f:Nat}{af:aC}{as:List aZ}(hf:E.fn f=some af)(he:af.eff=false)(hw:af.own=none)(hz:(as.map (rd fr)).all froz=true):
  aH E call n ((u,⟨d,.callf f as,none⟩)::ds) bo ⟨fr,lh,sh⟩=ke E call n ds (bo++ [cG]) (aq E call n [⟨d,.callf f as,none⟩] ⟨fr,lh,sh⟩):=by
 rw[lG (fp:=cG),nW,if_pos rfl]
 intro dr
 unfold bg at dr
 unfold bD
 have vb:bq (St.mk fr lh sh).rho (.callf f as)=some (some (f,as.map (rd fr))):=by rw[dA];rfl
 simp only[vb]at dr ⊢
 rw[aw hf he hw hz]at dr
 unfold dy
 have h1:(bl (fz af.eff aM) (as.map (rd fr))).run (St.mk fr lh sh).get sh.length=some (as.map (rd fr),[]):=by
  have:=nU (lh:=lh) (sh:=sh) (keep:=af.eff) hz
  unfold ni at this
  rw[jN];exact this
 simp only[hf]
 rw[h1]
 simp only[lV,List.all_nil,Bool.not_true,Bool.false_eq_true,if_false,he,hw]
 cases hc:call f (as.map (rd fr)) []with
 |none=>rw[hc]at dr;exact absurd rfl dr
 |some r=>
  simp only[cH,List.map_nil,ite_self]
  have:(bl (fz false aM) (as.map (rd fr))).log (St.mk fr lh sh).get sh.length= []:=tQ _ hz
  rw[this];rfl
theorem Uk{z:List T}{len:Nat}{ps:List (Nat×aZ)}(hz:(ps.map fun p=>rd fr p.2).all froz=true):
  aH E call n ((u,⟨d,.bsl z len ps,none⟩)::ds) bo ⟨fr,lh,sh⟩=ke E call n ds (bo++ [cG]) (aq E call n [⟨d,.bsl z len ps,none⟩] ⟨fr,lh,sh⟩):=by
 rw[lG (fp:=cG),nW,if_pos rfl]
 intro dr
 have h1:bl (fz false aM) (ps.map fun p=>rd fr p.2)= .ret (ps.map (fun p=>rd fr p.2),[]):=by
  have: ∀(ts:List T),ts.all froz=true→bl (fz false aM) ts= .ret (ts,[]):=by
   intro ts
   induction ts with
   |nil=>intro _;rfl
   |cons t ts ih=>
    intro hh
    simp only[List.all_cons,Bool.and_eq_true]at hh
    rw[bl,ih hh.2]
    unfold aM
    rw[kF hh.1];rfl
  exact this _ hz
 obtain⟨v,ups,hr,eb⟩:=pc (q:=if((ps.map fun p=>rd fr p.2).all fun v=>decide ((cellsOf v).length=z.length)&&noTup v)=true then(match aF (repl z len) ((ps.map fun p=>p.1*z.length).zip ((ps.map fun p=>rd fr p.2).map cellsOf))with|some cs=>Q.ret (.val (.sl cs len true) [])|none=> .fail)else .fail) (by rfl) (by rw[dA];simp only[bC];rw[h1];rfl) dr
 split at hr
 ·split at hr
  ·simp[Q.run]at hr
   obtain⟨rfl,rfl⟩:=hr
   rename_i hb _ _ zG
   rw[if_pos hb,zG]at eb
   exact eb rfl
  ·simp[Q.run]at hr
 ·simp[Q.run]at hr
theorem KG{dd:Nat}{z:List T}:aH E call n ((u,⟨some dd,.alloc z false,none⟩)::ds) bo ⟨fr,lh,sh⟩=
  if meets u bo ⟨false,[(.L,dd)],[(.L,dd)]⟩=true then ke E call n ds (bo++ [⟨false,[(.L,dd)],[(.L,dd)]⟩]) (aq E call n [⟨some dd,.alloc z false,none⟩] ⟨fr,lh,sh⟩)else none:=
 lG fun _=>rfl
theorem P1{dd:Nat}{z:List T}{bytes:Nat}{x:aZ}:aH E call n ((u,⟨some dd,.mksl z bytes x false,none⟩)::ds) bo ⟨fr,lh,sh⟩=
  if meets u bo ⟨false,[(.L,dd)],[(.L,dd)]⟩=true then ke E call n ds (bo++ [⟨false,[(.L,dd)],[(.L,dd)]⟩]) (aq E call n [⟨some dd,.mksl z bytes x false,none⟩] ⟨fr,lh,sh⟩)else none:=by
 refine lG fun dr=> ?_
 cases ha:asNat (rd fr x)with
 |none=>
  obtain⟨v,ups,hr,eb⟩:=pc (q:= .fail) (by rfl) (by rw[dA];simp only[bC,ha]) dr
  simp[Q.run]at hr
 |some k=>
  obtain⟨v,ups,hr,eb⟩:=pc (q:=if k*bytes≤roomy&&k≤roomy then gP dd false (.cells (repl z k) 0 false) (fun sp k' g=> .isl sp k' g 0 k z.length)else .fail) (by rfl) (by rw[dA];simp only[bC,ha];rfl) dr
  split at hr
  ·rename_i hb
   rw[if_pos hb]at eb
   simp[gP,Q.run]at hr
   obtain⟨rfl,rfl⟩:=hr
   exact eb rfl
  ·simp[Q.run]at hr
def KH:T→Bool
 | .ptr .L .. =>true
 |_=>false
theorem GM{k g off:Nat}:KH (.ptr .L k g off)=true:=nr rfl
theorem Ze{x v:aZ}{m:Nat}(hx:KH (rd fr x)=true)(hz:froz (rd fr v)=true):aH E call n ((u,⟨none,.st x v m,none⟩)::ds) bo ⟨fr,lh,sh⟩=
  if meets u bo ⟨false,jB (rd fr x),jB (rd fr x)⟩=true then ke E call n ds (bo++ [⟨false,jB (rd fr x),jB (rd fr x)⟩]) (aq E call n [⟨none,.st x v m,none⟩] ⟨fr,lh,sh⟩)else none:=by
 refine lG fun dr=> ?_
 cases qE:rd fr x with
 |ptr sp k g off=>
  cases sp with
  |S=>rw[qE]at hx;simp[KH]at hx
  |L=>
   by_cases hb:(decide ((cellsOf (rd fr v)).length≠m)|| !noTup (rd fr v))=true
   ·obtain⟨w,ups,hr,eb⟩:=pc (q:= .fail) (by rfl) (by rw[dA];simp only[bC,jm,qE];rw[if_pos hb]) dr
    simp[Q.run]at hr
   ·obtain⟨w,ups,hr,eb⟩:=pc (q:= .rd .L k (JE k g off m (rd fr v))) (by rfl) (by rw[dA];simp only[bC,jm,qE];rw[if_neg hb];rfl) dr
    simp only[Q.run,Q.log,Q.asks,Ju]at hr eb
    generalize aE lh k=e at hr eb
    obtain⟨g',ob⟩:=e
    unfold JE at hr eb
    by_cases hg:g'=g
    ·cases ob with
     |none=>simp[hg,Q.run]at hr
     |map ks vs z=>simp[hg,Q.run]at hr
     |cells cs wm bx=>
      simp only[hg,if_true]at hr eb
      split at hr
      ·rename_i hc
       rw[if_pos hc]at eb
       cases bx with
       |true=>
        simp[Q.run]at hr
        obtain⟨rfl,rfl⟩:=hr
        exact eb rfl
       |false=>
        unfold aM at hr eb
        simp only[Bool.false_and,Bool.false_eq_true,if_false]at hr eb
        rw[kF hz]at hr eb
        simp only[Q.bind]at hr eb
        split at hr
        ·simp[Q.run]at hr
        ·rename_i hd
         rw[if_neg hd]at eb
         simp[Q.run]at hr
         obtain⟨rfl,rfl⟩:=hr
         exact eb rfl
      ·simp[Q.run]at hr
    ·simp only[hg,if_false,Q.run]at hr
     cases hr
 |_=>rw[qE]at hx;simp[KH]at hx
theorem KI{op:k7}{j:Nat}{w:Bool}(h:an fr j= .b w):aH E call n ((u,⟨d,op,some (j,w)⟩)::ds) bo ⟨fr,lh,sh⟩=aH E call n ((u,⟨d,op,none⟩)::ds) bo ⟨fr,lh,sh⟩:=by
 simp only[aH,bD,bg,h,if_true]
theorem GN{op:k7}{j:Nat}(h:an fr j= .b true):aH E call n ((u,⟨d,op,some (j,true)⟩)::ds) bo ⟨fr,lh,sh⟩=aH E call n ((u,⟨d,op,none⟩)::ds) bo ⟨fr,lh,sh⟩:=KI h
theorem KJ{op:k7}{j:Nat}{w:Bool}(hd:xA n d)(h:an fr j= .b (!w)∨an fr j=bm):aH E call n ((u,⟨d,op,some (j,w)⟩)::ds) bo ⟨fr,lh,sh⟩=aH E call n ds (bo++ [cG]) ⟨mA fr d bm,lh,sh⟩:=by
 have eb:bD E call ⟨d,op,some (j,w)⟩ ⟨fr,lh,sh⟩=some cG:=by
  unfold bD
  rcases h with h|h
  ·simp only[h];rw[if_neg (by cases w <;> simp)]
  ·simp only[h,bm]
 rw[lG (fp:=cG) (fun _=>eb),nW,if_pos rfl]
 rcases h with h|h
 ·rw[zP hd h];rfl
 ·rw[BB hd h];rfl
theorem GO{dd:Nat}{op:k7}{j:Nat}(hd:dd<n)(h:an fr j= .b false):aH E call n ((u,⟨some dd,op,some (j,true)⟩)::ds) bo ⟨fr,lh,sh⟩=aH E call n ds (bo++ [cG]) ⟨cS fr dd bm,lh,sh⟩:=KJ (d:=some dd) hd (Or.inl h)
end
end Go.Ev
namespace Go.Ev
open Go
def fzW(m:Nat)(lh:aQ aA)(sh:List aA)(keep:Bool)(v:T):Option (T×List Up):=(fz keep (m+1) v).run (St.mk .nil lh sh).get sh.length
def xI(m:Nat)(lh:aQ aA)(sh:List aA)(keep:Bool)(vs:List T):Option (List T×List Up):=(bl (fz keep (m+1)) vs).run (St.mk .nil lh sh).get sh.length
section
variable{m:Nat}{lh:aQ aA}{sh:List aA}{keep:Bool}
theorem Dk{v:T}(h:froz1 v=true):fzW m lh sh keep v=some (v,[]):=by unfold fzW;rw[j0 h];rfl
theorem BD{k g off len sz:Nat}:fzW m lh sh keep (.isl .L k g off len sz)=F5 m lh sh k (aE lh k) g off len sz:=by
 cases keep <;> exact TW (aE lh k)
theorem GP:xI m lh sh keep []=some ([],[]):=rfl
theorem Dl{v:T}{vs:List T}:xI m lh sh keep (v::vs)=(fzW m lh sh keep v).bind fun p=>(xI m lh sh keep vs).bind fun q=>some (p.1::q.1,p.2++q.2):=by
 unfold xI fzW
 rw[bl,bI]
 congr 1
 funext p
 rw[bI]
 rfl
theorem GQ{cs:List T}:fzV lh sh keep (.agg cs)=(xI 6 lh sh keep cs).map fun q=>(.agg q.1,q.2):=JB
theorem GR{cs:List T}:fzV lh sh keep (.tup cs)=(xI 6 lh sh keep cs).map fun q=>(.tup q.1,q.2):=JC
theorem GS{cs:List T}:fzW (m+1) lh sh keep (.agg cs)=(xI m lh sh keep cs).map fun q=>(.agg q.1,q.2):=by
 unfold fzW xI
 rw[vh,bI]
 cases (bl (fz keep (m+1)) cs).run (St.mk .nil lh sh).get sh.length <;> rfl
theorem GU{eff:Bool}{v:T}:zQ lh sh eff [v]=(fzV lh sh eff v).map fun p=>(p.1,((St.mk .nil lh sh).ups p.2).sh):=rfl
theorem Dm{eff:Bool}{v u:T}{vs:List T}:zQ lh sh eff (v::u::vs)=(fzV lh sh eff (.tup (v::u::vs))).map fun p=>(p.1,((St.mk .nil lh sh).ups p.2).sh):=rfl
theorem Ul{k g g' off m wm:Nat}{cs:List T}{v:T}:JD lh sh k ⟨g',.cells cs wm false⟩ g off v m=if g'=g∧(cellsOf v).length=m∧noTup v=true∧wm≤off∧off+m≤cs.length then
   (fzV lh sh false v).bind fun p=>if fP p.2 .L k=true∨noTup p.1=false∨(cellsOf p.1).length≠m then none else some (((St.mk .nil lh sh).ups (p.2++ [(.L,k,⟨g,.cells (splice cs off (cellsOf p.1)) wm false⟩)])).lh,((St.mk .nil lh sh).ups (p.2++ [(.L,k,⟨g,.cells (splice cs off (cellsOf p.1)) wm false⟩)])).sh)
  else none:=rfl
end
theorem Um{x y:List Nat}:mO (.one .str) (.s x) (.s y)=some (decide (x=y)):=by
 simp only[mO,dJ,Bool.beq_eq_decide_eq]
theorem Un{k:IntKind}{x y:Int}:mO (.one .int) (.i k x) (.i k y)=some (decide (x=y)):=by
 simp only[mO,dJ,if_true,Bool.beq_eq_decide_eq]
theorem NH{x:List Nat}:isKey (.one .str) (.s x)=true:=nr rfl
theorem Uo{k:IntKind}{x:Int}:isKey (.one .int) (.i k x)=true:=nr rfl
theorem Uq{kk:EK}{k:T}:dY kk k []=some none:=rfl
def Ur(r:Option Bool)(rest:Option (Option Nat)):Option (Option Nat):=
 match r with
 |some true=>some (some 0)
 |some false=>rest.map fun r=>r.map (· +1)
 |none=>none
theorem Dn{kk:EK}{k x:T}{xs:List T}:dY kk k (x::xs)=Ur (mO kk k x) (dY kk k xs):=rfl
def V6(vs:List T)(z:T)(ok:Bool)(r:Option (Option Nat)):Option T:=
 match r with
 |some (some i)=>vs[i]?.map fun v=>if ok=true then .tup [v,.b true]else v
 |some none=>some (if ok=true then .tup [z,.b false]else z)
 |none=>none
theorem KK{kk:EK}{ks vs:List T}{k z:T}{ok:Bool}(h:isKey kk k=true):k8 kk ks vs k z ok=V6 vs z ok (dY kk k ks):=by
 unfold k8 V6
 simp only[h,Bool.not_true,Bool.false_eq_true,if_false]
 cases dY kk k ks with
 |none=>rfl
 |some o=>cases o <;> rfl
theorem GV{vs:List T}{z:T}{ok:Bool}{i:Nat}:V6 vs z ok (some (some i))=vs[i]?.map fun v=>if ok=true then .tup [v,.b true]else v:=rfl
theorem Us{vs:List T}{z:T}{ok:Bool}:V6 vs z ok (some none)=some (if ok=true then .tup [z,.b false]else z):=rfl
def KL(ks vs:List T)(k v:T)(r:Option (Option Nat)):Option (List T×List T):=
 match r with
 |some (some i)=>some (ks.set i k,vs.set i v)
 |some none=>some (ks++ [k],vs++ [v])
 |none=>none
theorem KM{kk:EK}{ks vs:List T}{k v:T}:nl kk k v ks vs=KL ks vs k v (dY kk k ks):=by
 unfold nl KL
 cases dY kk k ks with
 |none=>rfl
 |some o=>cases o <;> rfl
theorem Rh{ks vs:List T}{k v:T}{i:Nat}:KL ks vs k v (some (some i))=some (ks.set i k,vs.set i v):=rfl
theorem Dp{ks vs:List T}{k v:T}:KL ks vs k v (some none)=some (ks++ [k],vs++ [v]):=rfl
theorem gK{g g':Nat}{ks vs:List T}{z:Bool}{ek:EK}{k u:T}{ok:Bool}:T1 ⟨g',.map ks vs z⟩ g ek k u ok=if g'=g then k8 ek ks vs k u ok else none:=rfl
theorem V7{lh:aQ aA}{kk g g':Nat}{ks vs:List T}{ek:EK}{k v:T}:muE lh kk ⟨g',.map ks vs false⟩ g ek k v=if g'=g∧isKey ek k=true then(nl ek k v ks vs).map fun q=>gh lh kk ⟨g,.map q.1 q.2 false⟩else none:=rfl
end Go.Ev
namespace Go.Ev
open Go
section
variable{E:Env}{call:jk}{n:Nat}{fr:Fr}{lh:aQ aA}{sh:List aA}{os:List aJ}{d:Nat}
theorem GW{z:List T}(hd:d<n):aq E call n (⟨some d,.alloc z true,none⟩::os) ⟨fr,lh,sh⟩=aq E call n os ⟨cS fr d (.ptr .S sh.length 1 0),lh,fO sh sh.length ⟨1,.cells z 0 true⟩⟩:=by
 rw[k5 (by rfl) (show xA n (some d)from hd)];rfl
theorem GX(hd:d<n):aq E call n (⟨some d,.mkmap true,none⟩::os) ⟨fr,lh,sh⟩=aq E call n os ⟨cS fr d (.mp .S sh.length 1),lh,fO sh sh.length ⟨1,.map [] [] false⟩⟩:=by
 rw[k5 (by rfl) (show xA n (some d)from hd)];rfl
theorem Dq{e:aA}{l:List aA}:ch (e::l) 0=e:=rfl
theorem Dr{e:aA}{l:List aA}{k:Nat}:ch (e::l) (k+1)=ch l k:=rfl
theorem GY{k:Nat}:ch [] k=gO:=rfl
theorem GZ{v:aA}:fO [] 0 v= [v]:=rfl
theorem Ds{e v:aA}{l:List aA}:fO (e::l) 0 v=v::l:=rfl
theorem Dt{e v:aA}{l:List aA}{k:Nat}:fO (e::l) (k+1) v=e::fO l k v:=rfl
def rS(lh:aQ aA)(sh:List aA)(k:Nat)(e:aA)(g off:Nat)(v:T)(m:Nat):Option (aQ aA×List aA):=
 match e with
 |⟨g',.cells cs wm bx⟩=>if g'=g∧(cellsOf v).length=m∧noTup v=true∧wm≤off∧off+m≤cs.length then some (lh,fO sh k ⟨g,.cells (splice cs off (cellsOf v)) wm bx⟩)else none
 |_=>none
def KN(k g off m:Nat)(v:T)(e:aA):Q sL:=if e.g=g then match e.ob with
     | .cells cs wm bx=>if wm≤off&&off+m≤cs.length then
         (if bx&&Sp.S== .L then .ret (.val bm [(Sp.S,k,⟨g,.cells (splice cs off (cellsOf v)) wm bx⟩)])
         else(fz (bx&&Sp.S== .S) aM v).bind fun p=>if fP p.2 .S k|| !noTup p.1||(cellsOf p.1).length≠m then .fail else .ret (.val bm (p.2++ [(Sp.S,k,⟨g,.cells (splice cs off (cellsOf p.1)) wm bx⟩)])))
       else .fail
     |_=> .fail
    else .fail
theorem KO{k g off m:Nat}{v:T}(e:aA)(h1:(cellsOf v).length=m)(h2:noTup v=true)(hz:froz v=true):dD lh sh (Q.run (St.mk .nil lh sh).get sh.length (KN k g off m v e))=rS lh sh k e g off v m:=by
 obtain⟨g',ob⟩:=e
 unfold rS KN
 by_cases hg:g'=g
 ·subst hg
  cases ob with
  |none=>simp[Q.run,dD]
  |map ks vs z=>simp[Q.run,dD]
  |cells cs wm bx=>
   by_cases hb:wm≤off∧off+m≤cs.length
   ·have yZ:(decide (wm≤off)&&decide (off+m≤cs.length))=true:=by simp[hb.1,hb.2]
    have ID:(bx&&Sp.S==Sp.L)=false:=by cases bx <;> rfl
    unfold aM
    simp only[if_true,yZ,ID,Bool.false_eq_true,if_false]
    rw[kF hz]
    have iE:(fP [] Sp.S k|| !noTup v||decide ((cellsOf v).length≠m))=false:=by simp[fP,h1,h2]
    simp only[Q.bind,iE,Bool.false_eq_true,if_false,Q.run,dD]
    rw[if_pos ⟨trivial,h1,h2,hb⟩]
    rfl
   ·have yZ:(decide (wm≤off)&&decide (off+m≤cs.length))=false:=by
     cases hx:(decide (wm≤off)&&decide (off+m≤cs.length))with
     |false=>rfl
     |true=>simp at hx;exact absurd hx hb
    simp only[if_true,yZ,Bool.false_eq_true,if_false,Q.run,dD]
    rw[if_neg (by rintro⟨_,_,_,a⟩;exact hb a)]
 ·cases ob with
  |none=>simp[hg,Q.run,dD]
  |map ks vs z=>simp[hg,Q.run,dD]
  |cells cs wm bx=>simp[hg,Q.run,dD]
theorem Ut{k g off m:Nat}{v:T}(hz:froz v=true):tK lh sh (.ptr .S k g off) v m=rS lh sh k (ch sh k) g off v m:=by
 by_cases h1:(cellsOf v).length=m
 ·cases h2:noTup v with
  |false=>
   unfold tK jm
   have:(decide ((cellsOf v).length≠m)|| !noTup v)=true:=by simp[h2]
   simp only[this,if_true,Q.run]
   unfold rS
   split <;> simp[h2]
  |true=>
   unfold tK jm
   have:(decide ((cellsOf v).length≠m)|| !noTup v)=false:=by simp[h1,h2]
   simp only[this,Bool.false_eq_true,if_false]
   exact KO (ch sh k) h1 h2 hz
 ·unfold tK jm
  have:(decide ((cellsOf v).length≠m)|| !noTup v)=true:=by simp[h1]
  simp only[this,if_true,Q.run]
  unfold rS
  split <;> simp[h1]
theorem Ab{k g g' off m wm:Nat}{cs:List T}{bx:Bool}{v:T}:rS lh sh k ⟨g',.cells cs wm bx⟩ g off v m=if g'=g∧(cellsOf v).length=m∧noTup v=true∧wm≤off∧off+m≤cs.length then some (lh,fO sh k ⟨g,.cells (splice cs off (cellsOf v)) wm bx⟩)else none:=rfl
end
section
variable{E:Env}{call:jk}{n:Nat}{fr:Fr}{lh:aQ aA}{sh:List aA}{ds:List (List Nat×aJ)}{bo:List FP}{u:List Nat}{d:Option Nat}
def mM:T→List (Sp×Nat)
 | .mp sp k _=> [(sp,k)]
 |_=> []
theorem G0{sp:Sp}{k g:Nat}:mM (.mp sp k g)= [(sp,k)]:=rfl
theorem G1{a b:List T}:mM (.vm a b)= []:=rfl
theorem BE{h:Sp→Nat→aA}{nx:Nat}{o:Option T}:(val o).log h nx= []:=by cases o <;> rfl
theorem Zf{ek:EK}{m k:aZ}{z:T}{ok:Bool}:aH E call n ((u,⟨d,.lk ek m k z ok,none⟩)::ds) bo ⟨fr,lh,sh⟩=
  if meets u bo ⟨false,mM (rd fr m),[]⟩=true then ke E call n ds (bo++ [⟨false,mM (rd fr m),[]⟩]) (aq E call n [⟨d,.lk ek m k z ok,none⟩] ⟨fr,lh,sh⟩)else none:=by
 refine lG fun dr=> ?_
 obtain⟨hq,vb⟩:=vi (d:=d.getD 0) (ρ:=(St.mk fr lh sh).rho) (op:= .lk ek m k z ok) rfl
 obtain⟨v,ups,hr,eb⟩:=pc vb rfl dr
 obtain⟨rfl,ha⟩:=Q.calm_run _ hq hr
 have hl:(bC (d.getD 0) (St.mk fr lh sh).rho (.lk ek m k z ok)).log (St.mk fr lh sh).get sh.length=mM (rd fr m):=by
  rw[dA]
  simp only[bC]
  unfold mM
  cases hx:rd fr m <;> try rfl
  ·simp only[];split <;> rfl
  ·exact BE
  ·rename_i sp kk g
   simp only[Q.log]
   congr 1
   generalize (St.mk fr lh sh).get sp kk=e
   obtain⟨g',ob⟩:=e
   by_cases hg:g'=g
   ·cases ob with
    |map ks vs zz=>simp only[hg,if_true];exact BE
    |_=>simp only[hg,if_true];rfl
   ·simp only[hg,if_false];rfl
 have:=eb (by rw[ha];simp[lV])
 rw[this,ha,hl];rfl
end
section
variable{E:Env}{call:jk}{n:Nat}{fr:Fr}{lh:aQ aA}{sh:List aA}{ds:List (List Nat×aJ)}{bo:List FP}{d:Option Nat}
theorem aaK{st:St}{k:Nat}{e:aA}:lV st [(.L,k,e)]=true:=rfl
theorem KP{nm:Bool}{dd sz bytes:Nat}{s x:T}{v:T}{ups:List Up}{st:St}(hs:notS s=true)(h:(iv dd sz bytes s x false nm).run st.get st.sh.length=some (.val v ups)):lV st ups=true:=by
 unfold iv at h
 rw[bI]at h
 cases hx:(bL sz x).run st.get st.sh.length with
 |none=>rw[hx]at h;cases h
 |some p=>
  rw[hx]at h
  simp only[Option.bind_some]at h
  split at h
  ·split at h
   ·simp[Q.run]at h;rw[h.2];rfl
   ·simp[Q.run]at h;rw[h.2];rfl
   ·simp[Q.run]at h;rw[h.2];rfl
   ·simp[Q.run]at h
  ·split at h
   ·split at h
    ·simp[gP,Q.run]at h;rw[←h.2];rfl
    ·simp[Q.run]at h
   ·split at h
    ·simp[gP,Q.run]at h;rw[←h.2];rfl
    ·simp[Q.run]at h
   ·rename_i sp k g off len jt
    cases sp with
    |S=>simp[notS]at hs
    |L=>
     split at h
     ·simp only[Q.run]at h
      split at h
      ·split at h
       ·split at h
        ·simp[Q.run]at h;rw[←h.2];rfl
        ·simp[Q.run]at h
       ·simp[Q.run]at h
      ·simp[Q.run]at h
     ·simp[Q.run]at h
   ·simp[Q.run]at h
def EV:List (List Nat×aJ)→Bool
 | []=>true
 |(u,_)::ds=>u.isEmpty&&EV ds
theorem KQ:EV []=true:=nr rfl
theorem G2{o:aJ}{ds:List (List Nat×aJ)}:EV (([],o)::ds)=EV ds:=nr rfl
theorem nX: ∀(ds:List (List Nat×aJ)) (bo Uu:List FP) (st:St),EV ds=true→aH E call n ds bo st=aH E call n ds Uu st
 | [],_,_,_,_=>rfl
 |(u,o)::ds,bo,Uu,st,h=>by
  simp only[EV,Bool.and_eq_true,List.isEmpty_iff]at h
  obtain⟨rfl,h⟩:=h
  simp only[aH,List.all_nil,if_true]
  cases bD E call o st with
  |none=>rfl
  |some fp=>
   simp only[]
   cases bg E call n o st with
   |none=>rfl
   |some s=>exact nX ds _ _ s h
end
end Go.Ev
