/- A tree evaluator over the model, proved against it (part F): where it answers, the call returns that answer. Conditions: none beyond its theorems' own. -/
import Derived.Test.YtblcbheipjeoeaaGreatEvE
set_option linter.unusedSimpArgs false
set_option linter.unusedVariables false
namespace Go.Ev
open Go
theorem aiF{x:Bool}:froz (.b x)=true:=nr rfl
theorem aiG{k:IntKind}{n:Int}:froz (.i k n)=true:=nr rfl
theorem aiH{l:List Nat}:froz (.s l)=true:=nr rfl
theorem MW:froz .nilsl=true:=nr rfl
theorem abD{cs:List T}{n:Nat}{e:Bool}:froz (.sl cs n e)=true:=nr rfl
theorem abE{cs:List T}:froz (.vp cs)=true:=nr rfl
theorem Ks{cs:List T}:froz (.agg cs)=cs.all froz1:=nr rfl
theorem WK{cs:List T}:froz (.tup cs)=cs.all froz1:=nr rfl
theorem abF{x:Bool}:froz1 (.b x)=true:=nr rfl
theorem Al{k:IntKind}{n:Int}:froz1 (.i k n)=true:=nr rfl
theorem H9{l:List Nat}:froz1 (.s l)=true:=nr rfl
theorem Kt:froz1 .nilsl=true:=nr rfl
theorem WL{cs:List T}{n:Nat}{e:Bool}:froz1 (.sl cs n e)=true:=nr rfl
theorem Ia:froz1 .nilptr=true:=nr rfl
theorem RK{cs:List T}:cellsOf (.agg cs)=cs:=nr rfl
theorem abG{x:Bool}:cellsOf (.b x)= [.b x]:=nr rfl
theorem abH{k:IntKind}{n:Int}:cellsOf (.i k n)= [.i k n]:=nr rfl
theorem abI{l:List Nat}:cellsOf (.s l)= [.s l]:=nr rfl
theorem RM{sp:Sp}{a b c d e:Nat}:cellsOf (.isl sp a b c d e)= [.isl sp a b c d e]:=nr rfl
theorem WM{sp:Sp}{a b:Nat}:cellsOf (.mp sp a b)= [.mp sp a b]:=nr rfl
theorem RN{cs:List T}:noTup (.agg cs)=true:=nr rfl
theorem abJ{x:Bool}:noTup (.b x)=true:=nr rfl
theorem abK{k:IntKind}{n:Int}:noTup (.i k n)=true:=nr rfl
theorem abL{l:List Nat}:noTup (.s l)=true:=nr rfl
theorem RO{sp:Sp}{a b c d e:Nat}:noTup (.isl sp a b c d e)=true:=nr rfl
theorem WN{sp:Sp}{a b:Nat}:noTup (.mp sp a b)=true:=nr rfl
theorem MX:notS .nilsl=true:=nr rfl
theorem WO{a b c d e:Nat}:notS (.isl .L a b c d e)=true:=nr rfl
theorem abM{a b:Nat}:notS (.mp .L a b)=true:=nr rfl
theorem abN{cs:List T}{n:Nat}{e:Bool}:tC (.sl cs n e)=some n:=nr rfl
theorem WQ:lenI .nilsl=some (.i .i64 0):=nr rfl
theorem abO{cs:List T}{n:Nat}{e:Bool}:lenI (.sl cs n e)=some (.i .i64 n):=nr rfl
theorem WR{sp:Sp}{a b c d e:Nat}:lenI (.isl sp a b c d e)=some (.i .i64 d):=nr rfl
theorem WS{x:Bool}:scalar (.b x)=true:=nr rfl
theorem WT{k:IntKind}{n:Int}:scalar (.i k n)=true:=nr rfl
section
variable{lh:hJ gR}{sh:List gR}{m g off k:Nat}{ag:Bool}
theorem aiI{cs:List T}:ZZ lh sh (.vp cs) m ag=Ev.part cs 0 m ag:=rfl
theorem aro:ZZ lh sh (.ptr .L k g off) m ag=ldE (a6 lh k) g off m ag:=rfl
theorem arp:ZZ lh sh (.ptr .S k g off) m ag=ldE (jr sh k) g off m ag:=rfl
theorem aiJ{cs:List T}:faV (.vp cs) off=if off≤cs.length then some (.vp (cs.drop off))else none:=rfl
theorem abP{sp:Sp}{o:Nat}:faV (.ptr sp k g o) off=some (.ptr sp k g (o+off)):=rfl
theorem WU{cs:List T}:aa4 (.agg cs) off m ag=Ev.part cs off m ag:=rfl
theorem abQ{cs:List T}:RB (.vp cs)=some (.vp cs):=rfl
theorem WV{sp:Sp}{o:Nat}:RB (.ptr sp k g o)=some (.ptr sp k g o):=rfl
theorem WW{i:List T}:aa5 (.tup i) m=i[m]? :=rfl
theorem abR{l:List Nat}:Pg (.s l)=some (.i .i64 l.length):=rfl
theorem aiK{kk r:IntKind}{n:Int}:aa2 kk (.i r n)=some (.i kk (wr kk n)):=rfl
theorem vd{m k g i off len sz wm:Nat}{lh:hJ gR}{sh:List gR}{cs:List T}:Wt m lh sh k ⟨i,.cells cs wm false⟩ g off len sz=if i=g∧off+len*sz≤cs.length then some (.sl ((cs.drop off).take (len*sz)) len false,[(.L,k,⟨g,.cells cs cs.length false⟩)])else none:=rfl
theorem abS{k g r:Nat}{ks i:List T}{z:Bool}:mpV k ⟨r,.map ks i z⟩ g=if r=g then some (.vm ks i,[(.L,k,⟨g,.map ks i true⟩)])else none:=rfl
theorem yK{g i off len sz r bytes wm:Nat}{p:Nat×List T}{cs:List T}:RD lh k ⟨i,.cells cs wm false⟩ g off len sz r bytes p=if r=sz∧off=0∧(len+p.1)*bytes≤roomy∧i=g∧len*sz=cs.length then some (.isl .L k (g+1) 0 (len+p.1) sz,pk lh k ⟨g+1,.cells (cs++p.2) wm false⟩)else none:=rfl
theorem Bt{d sz bytes:Nat}{cs:List T}{s:T}(h:(tC s).isSome=true):H6 lh d sz bytes s (0,cs)=some (s,lh):=by
 unfold H6;rw[if_pos rfl];cases s <;> first|rfl|(simp[tC]at h)
theorem wM{d sz bytes n:Nat}{cs:List T}:H6 lh d sz bytes .nilsl (n+1,cs)=if(n+1)*bytes≤roomy then some (.isl .L d ((a6 lh d).g+1) 0 (n+1) sz,pk lh d ⟨(a6 lh d).g+1,.cells cs 0 false⟩)else none:=by
 unfold H6;rw[if_neg (Nat.succ_ne_zero n)]
theorem wN{d sz i bytes n g off len:Nat}{cs:List T}:H6 lh d sz bytes (.isl .L k g off len i) (n+1,cs)=RD lh k (a6 lh k) g off len sz i bytes (n+1,cs):=by
 unfold H6;rw[if_neg (Nat.succ_ne_zero n)]
end
theorem tQ{α:Type}{f:α→List T}{sz:Nat}(i: ∀x,(f x).length=sz): ∀xs:List α,(xs.flatMap f).length=xs.length*sz
 | []=>by simp
 |x::xs=>by simp[List.flatMap_cons,i,tQ i xs,Nat.succ_mul,Nat.add_comm]
theorem Bu{α:Type}{f:α→List T}{sz:Nat}(r: ∀x,(f x).length=sz): ∀(xs:List α) (k:Nat) (i:k<xs.length),(xs.flatMap f).drop (k*sz)=f xs[k]++(xs.drop (k+1)).flatMap f
 | [],k,i=>by simp at i
 |x::xs,0,i=>by grind
 |x::xs,k+1,i=>by
  have C:(k+1)*sz=(f x).length+k*sz:=by rw[r,Nat.succ_mul,Nat.add_comm]
  have D:List.drop ((f x).length+k*sz) (f x)= []:=List.drop_eq_nil_of_le (by omega)
  rw[List.flatMap_cons,C,List.drop_append,D,Nat.add_sub_cancel_left,Bu r xs k (by simpa using i)]
  rfl
def ints(xs:List Int):List T:=xs.map (T.i .i64)
theorem kg(xs:List Int):(ints xs).length=xs.length:=by simp[ints]
theorem xB(xs:List Int)(k:Nat)(r:k<xs.length):(ints xs).drop k=T.i .i64 xs[k]::(ints xs).drop (k+1):=by
 rw[List.drop_eq_getElem_cons (by rw[kg];exact r)];simp[ints]
def g8(v:T)(n:Nat)(cs:List T):Prop:=(v= .nilsl∧n=0∧cs= [])∨ ∃ex,v= .sl cs n ex
theorem g8.len{v:T}{n:Nat}{cs:List T}(h:g8 v n cs):tC v=some n:=by
 rcases h with⟨rfl,rfl,_⟩|⟨ex,rfl⟩ <;> rfl
theorem g8.lenI{v:T}{n:Nat}{cs:List T}(h:g8 v n cs):lenI v=some (.i .i64 (n:Int)):=abq h.len
theorem g8.froz1{v:T}{n:Nat}{cs:List T}(h:g8 v n cs):froz1 v=true:=by
 rcases h with⟨rfl,_,_⟩|⟨ex,rfl⟩ <;> rfl
theorem g8.froz{v:T}{n:Nat}{cs:List T}(h:g8 v n cs):froz v=true:=by
 rcases h with⟨rfl,_,_⟩|⟨ex,rfl⟩ <;> rfl
theorem g8.cells{v:T}{n:Nat}{cs:List T}(h:g8 v n cs):cellsOf v= [v]:=by
 rcases h with⟨rfl,_,_⟩|⟨ex,rfl⟩ <;> rfl
theorem g8.noTup{v:T}{n:Nat}{cs:List T}(h:g8 v n cs):noTup v=true:=by
 rcases h with⟨rfl,_,_⟩|⟨ex,rfl⟩ <;> rfl
theorem g8.ia{v:T}{n sz k:Nat}{cs:List T}{kk:IntKind}(h:g8 v n cs)(r:cs.length=n*sz)(C:k<n):sH v (.i kk (k:Int)) sz=some (.vp (cs.drop (k*sz))):=by
 rcases h with⟨rfl,rfl,_⟩|⟨ex,rfl⟩
 ·omega
 grind [jm,Int.toNat_natCast,Nat.mul_le_mul_right]
theorem g8.slC{v:T}{n sz:Nat}{cs:List T}{lh:hJ gR}{sh:List gR}(h:g8 v n cs)(i:cs.length=n*sz):slC lh sh sz v=some (n,cs):=by
 rcases h with⟨rfl,rfl,rfl⟩|⟨ex,rfl⟩
 ·rfl
 ·rw[yI,if_pos i]
end Go.Ev
namespace Go.Ev
open Go
section
variable(E:Env)(n:Nat)(b:gT)(fr:Fr)(lh:hJ gR)(sh:List gR)
noncomputable def kh:Fr:=match DC E n (.loop b) ⟨fr,lh,sh⟩with|some (_,st)=>st.fr|none=>fr
noncomputable def kH:hJ gR:=match DC E n (.loop b) ⟨fr,lh,sh⟩with|some (_,st)=>st.lh|none=>lh
noncomputable def kb:List gR:=match DC E n (.loop b) ⟨fr,lh,sh⟩with|some (_,st)=>st.sh|none=>sh
end
section
variable{E:Env}{n:Nat}{b:gT}{fr:Fr}{lh:hJ gR}{sh:List gR}{o:Out}
theorem WX{s:Nat}(h:(kJ (.loop b)).contains s=false):an (kh E n b fr lh sh) s=an fr s:=by
 unfold kh
 cases i:DC E n (.loop b) ⟨fr,lh,sh⟩with
 |none=>rfl
 |some p=>obtain⟨o,st⟩:=p;exact lW i s h
def pB:List Nat→Nat
 | []=>0
 |s::ss=>(1 <<< s) ||| pB ss
theorem Ib(s:Nat): ∀l:List Nat,s∈l→(pB l).testBit s=true
 | [],h=>by simp at h
 |x::xs,h=>by
  rw[pB,Nat.testBit_or]
  rcases List.mem_cons.1 h with h|h
  ·grind
  ·rw[Ib s xs h];simp
theorem RP{s:Nat}(h:(pB (kJ (.loop b)) >>> s)%2=0):an (kh E n b fr lh sh) s=an fr s:=by
 refine WX ?_
 cases i:(kJ (.loop b)).contains s with
 |false=>rfl
 |true=>
  have r:=Ib s _ (List.contains_iff_mem.1 i)
  grind [Nat.testBit]
theorem D6{i:hJ gR}{r:List gR}{P:Fr→Prop}(h: ∃C,DC E n (.loop b) ⟨fr,lh,sh⟩=some (o,⟨C,i,r⟩)∧P C):
  DC E n (.loop b) ⟨fr,lh,sh⟩=some (o,⟨kh E n b fr lh sh,i,r⟩)∧P (kh E n b fr lh sh):=by
 grind [kh]
theorem RQ{P:Fr→hJ gR→List gR→Prop}(h: ∃i r C,DC E n (.loop b) ⟨fr,lh,sh⟩=some (o,⟨i,r,C⟩)∧P i r C):
  DC E n (.loop b) ⟨fr,lh,sh⟩=some (o,⟨kh E n b fr lh sh,kH E n b fr lh sh,kb E n b fr lh sh⟩)∧P (kh E n b fr lh sh) (kH E n b fr lh sh) (kb E n b fr lh sh):=by
 grind [kh,kH,kb]
end
end Go.Ev
namespace Go.Ev
open Go
section
variable{a:Int}
theorem abT{k k':IntKind}{b:Int}:Ev.bin .shr (.i k a) (.i k' b)=if b<0 then none else some (.i k (a.fdiv (2 ^ (min b.toNat k.bits)))):=by
 simp only[Ev.bin,Dv]
end
theorem rI{n:Int}(h:0≤n∧n≤18446744073709551615):wr .u64 n=n:=by grind [wr,lo,hi]
end Go.Ev
namespace Go.Ev
open Go
theorem D7(x:FP):apart x nW=true:=by
 obtain⟨a,r,w⟩:=x
 simp[apart,mS,nW,LZ]
theorem MY(x:FP):apart nW x=true:=by
 obtain⟨a,r,w⟩:=x
 simp[apart,mS,nW,LZ]
theorem WY{r i w w':List (Sp×Nat)}:apart ⟨false,r,w⟩ ⟨false,i,w'⟩=(mS w i&&mS w w'&&mS r w'):=by
 simp[apart]
theorem MZ{i:List (Sp×Nat)}:mS [] i=true:=rfl
theorem Ku{x:Sp×Nat}{xs i:List (Sp×Nat)}:mS (x::xs) i=(!i.contains x&&mS xs i):=rfl
theorem abU{x:Sp×Nat}:([]:List (Sp×Nat)).contains x=false:=rfl
theorem WZ{a c:Sp}{b d:Nat}{ys:List (Sp×Nat)}:((c,d)::ys).contains (a,b)=((decide (a=c)&&decide (b=d))||ys.contains (a,b)):=by
 rw[List.contains_cons]
 have:((a,b)==(c,d))=(decide (a=c)&&decide (b=d)):=by
  cases a <;> cases c <;> by_cases h:b=d <;> simp[h]
 rw[this]
def mi:mO→Bool
 | .mv _| .pick .. | .bin .. | .eq .. | .un .. | .cvi .. | .mkfn .. | .build .. | .slS .. | .fa .. | .fld .. | .ia .. | .iaA .. | .ixS .. | .ixA .. | .ext .. | .lenS _| .lenV _| .lenC _| .mm .. | .nck _=>true
 | .slV _ _ _ _ none=>true
 |_=>false
theorem abV{x:iz}:mi (.mv x)=true:=nr rfl
theorem RR{c a b:iz}:mi (.pick c a b)=true:=nr rfl
theorem W0{o:BinOp}{x y:iz}:mi (.bin o x y)=true:=nr rfl
theorem abW{o:UnOp}{x:iz}:mi (.un o x)=true:=nr rfl
theorem M4{z:List T}{ps:List (Nat×Nat×iz)}:mi (.build z ps)=true:=nr rfl
theorem abX{x:iz}{o:Nat}:mi (.fa x o)=true:=nr rfl
theorem W1{x:iz}{o m:Nat}{g:Bool}:mi (.fld x o m g)=true:=nr rfl
theorem abY{x y:iz}{m:Nat}:mi (.ia x y m)=true:=nr rfl
theorem W2{x y:iz}{m k:Nat}:mi (.iaA x y m k)=true:=nr rfl
theorem W3{x:iz}{j:Nat}:mi (.ext x j)=true:=nr rfl
theorem RS{x:iz}:mi (.lenV x)=true:=nr rfl
theorem abZ{g:Bool}{as:List iz}:mi (.mm g as)=true:=nr rfl
theorem W4{x:iz}:mi (.nck x)=true:=nr rfl
theorem W5{m:Nat}{x:iz}{l h:Option iz}:mi (.slV m x l h none)=true:=nr rfl
def Q.plain:Q Du→Prop
 | .ret (.val _ i)=>i= []
 | .fail=>True
 | .rd _ _ _=>False
 | .new _=>False
theorem Q.plain_run{h:Sp→Nat→gR}{D:Nat}: ∀(q:Q Du),q.plain→ ∀{v:T} {i:List Up},q.run h D=some (.val v i)→i= []∧q.asks h D=false∧q.log h D= []
 | .ret (.val _ _),r,v,i,C=>by simp[Q.run]at C;obtain⟨rfl,rfl⟩:=C;exact⟨r,rfl,rfl⟩
 | .fail,r,v,i,C=>by simp[Q.run]at C
 | .rd sp k f,r,v,i,C=>r.elim
 | .new f,r,v,i,C=>r.elim
theorem np{o:Option T}:(val o).plain:=by cases o <;> simp[val,Q.plain]
theorem W6{d:Nat}{ρ:iz→T}{op:mO}(h:mi op=true):(jf d ρ op).plain∧jj ρ op=none:=by
 refine⟨?_,by cases op <;> first|rfl|(simp[mi]at h)⟩
 cases op with
 |mv x=>exact rfl
 |pick c a b=>simp only[jf];split <;> simp[Q.plain]
 |bin op x y=>exact np
 |eq neg k x y=>exact np
 |un op x=>exact np
 |cvi k x=>simp only[jf];split <;> simp[Q.plain]
 |mkfn f a c=>exact rfl
 |build z ps=>
  simp only[jf]
  by_cases r:(ps.all fun p=>decide ((cellsOf (ρ p.2.2)).length=p.2.1)&&noTup (ρ p.2.2))=true
  ·rw[if_pos r];exact np
  ·rw[if_neg r];trivial
 |slS x l h=>
  simp only[jf]
  split
  ·split
   ·split <;> simp[Q.plain]
   ·trivial
  ·trivial
 |fa x off=>
  simp only[jf]
  split
  ·split <;> simp[Q.plain]
  ·exact rfl
  ·trivial
 |fld x off m ag=>
  simp only[jf]
  split
  ·exact np
  ·trivial
 |ia x i sz=>
  simp only[jf]
  split
  ·split <;> simp[Q.plain]
  ·split <;> simp[Q.plain]
  ·trivial
 |iaA x i len sz=>
  simp only[jf]
  split
  ·split <;> simp[Q.plain]
  ·split <;> simp[Q.plain]
  ·trivial
 |ixS x i=>
  simp only[jf]
  split
  ·split <;> simp[Q.plain]
  ·trivial
 |ixA x i len sz ag=>
  simp only[jf]
  split
  ·split
   ·exact np
   ·trivial
  ·trivial
 |ext x j=>
  simp only[jf]
  split
  ·exact np
  ·trivial
 |lenS x=>simp only[jf];split <;> simp[Q.plain]
 |lenV x=>exact np
 |lenC m=>exact rfl
 |mm b as=>
  simp only[jf]
  split
  ·exact np
  ·trivial
 |nck x=>simp only[jf];split <;> simp[Q.plain]
 |slV sz x l h C=>
  cases C with
  |some m=>simp[mi]at h
  |none=>
   simp only[jf]
   split
   ·trivial
   ·split
    ·unfold B0
     split
     ·split <;> simp[Q.bind,Q.plain]
     ·split <;> simp[Q.bind,Q.plain]
     ·split <;> simp[Q.bind,Q.plain]
     ·trivial
    ·rename_i D;exact absurd D (by simp)
    ·trivial
 |_=>simp[mi]at h
def ke(E:Env)(call:rh)(n:Nat)(ds:List (List Nat×be))(jM:List FP)(x:Option St):Option St:=x.bind (iK E call n ds jM)
def meets(u:List Nat)(jM:List FP)(fp:FP):Bool:=u.all fun i=>apart (iy ⟨true,[],[]⟩ jM i) fp
section
variable{E:Env}{call:rh}{n:Nat}{fr:Fr}{lh:hJ gR}{sh:List gR}{ds:List (List Nat×be)}{jM:List FP}{u:List Nat}{d:Option Nat}
theorem ab0{st:St}:ke E call n ds jM (some st)=iK E call n ds jM st:=rfl
theorem RT{fp:FP}:meets [] jM fp=true:=rfl
theorem M5{i:Nat}{fp:FP}:meets (i::u) jM fp=(apart (iy ⟨true,[],[]⟩ jM i) fp&&meets u jM fp):=rfl
theorem Am:meets u jM nW=true:=by
 unfold meets
 rw[List.all_eq_true]
 intro i _
 exact D7 _
theorem RU{st:St}:DC E n (.draws ds) st=(iK E (gS E) n ds [] st).map fun i=>(.nrm,i):=Km
theorem ve{o:be}{fp:FP}{st:St}(h:iW E call n o st≠none→jk E call o st=some fp):
  iK E call n ((u,o)::ds) jM st=if meets u jM fp=true then ke E call n ds (jM++ [fp]) (gV E call n [o] st)else none:=by
 simp only[iK]
 unfold meets ke
 cases i:iW E call n o st with
 |none=>
  have r:gV E call n [o] st=none:=by simp only[gV,i]
  rw[r]
  cases jk E call o st with
  |none=>simp
  |some C=>simp
 |some s=>
  have r:gV E call n [o] st=some s:=by simp only[gV,i]
  rw[r,h (by rw[i];simp)]
  rfl
theorem yb{op:mO}{st:St}{q:Q Du}(D0:jj st.rho op=none)(F:jf (d.getD 0) st.rho op=q)(C:iW E call n ⟨d,op,none⟩ st≠none):
  ∃v i,q.run st.get st.sh.length=some (.val v i)∧((q.asks st.get st.sh.length||yi st i)=true→jk E call ⟨d,op,none⟩ st=some ⟨q.asks st.get st.sh.length,q.log st.get st.sh.length,j6 i⟩):=by
 subst F
 unfold iW at C
 simp only[D0]at C
 cases D:(jf (d.getD 0) st.rho op).run st.get st.sh.length with
 |none=>simp only[D]at C;exact absurd rfl C
 |some r=>
  obtain⟨v,i⟩:=r
  refine⟨v,i,rfl,fun H=> ?_⟩
  unfold jk
  simp only[D0,D]
  rw[if_pos H]
theorem aiL{op:mO}(D:mi op=true):iK E call n ((u,⟨d,op,none⟩)::ds) jM ⟨fr,lh,sh⟩=ke E call n ds (jM++ [nW]) (gV E call n [⟨d,op,none⟩] ⟨fr,lh,sh⟩):=by
 rw[ve (fp:=nW),Am,if_pos rfl]
 intro i
 obtain⟨F,D0⟩:=W6 (d:=d.getD 0) (ρ:=(St.mk fr lh sh).rho) D
 unfold iW at i
 unfold jk
 simp only[D0]at i ⊢
 cases C:(jf (d.getD 0) (St.mk fr lh sh).rho op).run (St.mk fr lh sh).get sh.length with
 |none=>simp only[C]at i;exact absurd rfl i
 |some r=>
  obtain⟨v,H⟩:=r
  obtain⟨rfl,I,J⟩:=Q.plain_run _ F C
  simp only[I,J,yi,List.all_nil,Bool.or_true,if_true,j6,List.map_nil]
  rfl
def sI:T→List (Sp×Nat)
 | .ptr sp k _ _=> [(sp,k)]
 |_=> []
theorem W7{cs:List T}:sI (.vp cs)= []:=rfl
theorem RV{sp:Sp}{k g off:Nat}:sI (.ptr sp k g off)= [(sp,k)]:=rfl
theorem Q.log_bind{α β:Type}{h:Sp→Nat→gR}{i:Nat}{f:α→Q β}(r: ∀a,(f a).log h i= []): ∀q:Q α,(q.bind f).log h i=q.log h i
 | .ret a=>r a
 | .fail=>rfl
 | .rd sp k g=>by show(sp,k)::((g (h sp k)).bind f).log h i=(sp,k)::(g (h sp k)).log h i;rw[Q.log_bind r (g (h sp k))]
 | .new g=>Q.log_bind r (g i)
theorem aw1{x:iz}{m:Nat}{ag:Bool}:iK E call n ((u,⟨d,.ld x m ag,none⟩)::ds) jM ⟨fr,lh,sh⟩=
  if meets u jM ⟨false,sI (rd fr x),[]⟩=true then ke E call n ds (jM++ [⟨false,sI (rd fr x),[]⟩]) (gV E call n [⟨d,.ld x m ag,none⟩] ⟨fr,lh,sh⟩)else none:=by
 refine ve ?_
 intro i
 obtain⟨F,D0⟩:=H7 (d:=d.getD 0) (ρ:=(St.mk fr lh sh).rho) (op:= .ld x m ag) rfl
 unfold iW at i
 unfold jk
 simp only[D0]at i ⊢
 cases D:(jf (d.getD 0) (St.mk fr lh sh).rho (.ld x m ag)).run (St.mk fr lh sh).get sh.length with
 |none=>simp only[D]at i;exact absurd rfl i
 |some r=>
  obtain⟨v,H⟩:=r
  obtain⟨rfl,I⟩:=Q.calm_run _ F D
  have J:(jf (d.getD 0) (St.mk fr lh sh).rho (.ld x m ag)).log (St.mk fr lh sh).get sh.length=sI (rd fr x):=by
   rw[lq]
   simp only[jf]
   rw[Q.log_bind (fun a=>rfl)]
   unfold HH sI
   cases N:rd fr x <;> try rfl
   ·simp only[];generalize Ev.part _ _ _ _=o;cases o <;> rfl
   ·rename_i sp k g off
    simp only[Q.log]
    congr 1
    generalize (St.mk fr lh sh).get sp k=e
    obtain⟨K,ob⟩:=e
    by_cases C:K=g
    ·cases ob with
     |cells cs wm bx=>simp only[C,if_true];generalize Ev.part _ _ _ _=o;cases o <;> rfl
     |_=>simp only[C,if_true];rfl
    ·simp only[C,if_false];rfl
  simp only[I,J,yi,List.all_nil,Bool.or_true,if_true,j6,List.map_nil]
theorem GJ{keep:Bool}{m:Nat}{h:Sp→Nat→gR}{r:Nat}: ∀(ts:List T),ts.all froz=true→(iZ (fz keep (m+2)) ts).log h r= []
 | [],_=>rfl
 |t::ts,i=>by
  simp only[List.all_cons,Bool.and_eq_true]at i
  simp only[iZ,pP i.1,Q.bind]
  rw[Q.log_bind (fun a=>rfl),GJ ts i.2]
theorem ahs{f:Nat}{i:gU}{as:List iz}(F:E.fn f=some i)(H:i.eff=false)(I:i.own=none)(D:(as.map (rd fr)).all froz=true):
  iK E call n ((u,⟨d,.callf f as,none⟩)::ds) jM ⟨fr,lh,sh⟩=ke E call n ds (jM++ [nW]) (gV E call n [⟨d,.callf f as,none⟩] ⟨fr,lh,sh⟩):=by
 rw[ve (fp:=nW),Am,if_pos rfl]
 intro C
 unfold iW at C
 unfold jk
 have D0:jj (St.mk fr lh sh).rho (.callf f as)=some (some (f,as.map (rd fr))):=by rw[lq];rfl
 simp only[D0]at C ⊢
 rw[JC F H I D]at C
 unfold lO
 have J:(iZ (fz i.eff iB) (as.map (rd fr))).run (St.mk fr lh sh).get sh.length=some (as.map (rd fr),[]):=by
  have:=wL (lh:=lh) (sh:=sh) (keep:=i.eff) D
  unfold HG at this
  rw[u7];exact this
 simp only[F]
 rw[J]
 simp only[yi,List.all_nil,Bool.not_true,Bool.false_eq_true,if_false,H,I]
 cases K:call f (as.map (rd fr)) []with
 |none=>rw[K]at C;exact absurd rfl C
 |some r=>
  simp only[j6,List.map_nil,ite_self]
  have:(iZ (fz false iB) (as.map (rd fr))).log (St.mk fr lh sh).get sh.length= []:=GJ _ D
  rw[this];rfl
theorem arq{z:List T}{len:Nat}{ps:List (Nat×iz)}(D:(ps.map fun p=>rd fr p.2).all froz=true):
  iK E call n ((u,⟨d,.bsl z len ps,none⟩)::ds) jM ⟨fr,lh,sh⟩=ke E call n ds (jM++ [nW]) (gV E call n [⟨d,.bsl z len ps,none⟩] ⟨fr,lh,sh⟩):=by
 rw[ve (fp:=nW),Am,if_pos rfl]
 intro F
 have H:iZ (fz false iB) (ps.map fun p=>rd fr p.2)= .ret (ps.map (fun p=>rd fr p.2),[]):=by
  have: ∀(ts:List T),ts.all froz=true→iZ (fz false iB) ts= .ret (ts,[]):=by
   intro ts
   induction ts with
   |nil=>intro _;rfl
   |cons t ts ih=>
    intro r
    simp only[List.all_cons,Bool.and_eq_true]at r
    rw[iZ,ih r.2]
    unfold iB
    rw[pP r.1];rfl
  exact this _ D
 obtain⟨v,I,i,C⟩:=yb (q:=if((ps.map fun p=>rd fr p.2).all fun v=>decide ((cellsOf v).length=z.length)&&noTup v)=true then(match qG (repl z len) ((ps.map fun p=>p.1*z.length).zip ((ps.map fun p=>rd fr p.2).map cellsOf))with|some cs=>Q.ret (.val (.sl cs len true) [])|none=> .fail)else .fail) (by rfl) (by rw[lq];simp only[jf];rw[H];rfl) F
 split at i
 ·split at i
  ·simp[Q.run]at i
   obtain⟨rfl,rfl⟩:=i
   rename_i J _ _ K
   rw[if_pos J,K]at C
   exact C rfl
  ·simp[Q.run]at i
 ·simp[Q.run]at i
theorem ab1{i:Nat}{z:List T}:iK E call n ((u,⟨some i,.alloc z false,none⟩)::ds) jM ⟨fr,lh,sh⟩=
  if meets u jM ⟨false,[(.L,i)],[(.L,i)]⟩=true then ke E call n ds (jM++ [⟨false,[(.L,i)],[(.L,i)]⟩]) (gV E call n [⟨some i,.alloc z false,none⟩] ⟨fr,lh,sh⟩)else none:=
 ve fun _=>rfl
theorem aiM{i:Nat}{z:List T}{bytes:Nat}{x:iz}:iK E call n ((u,⟨some i,.mksl z bytes x false,none⟩)::ds) jM ⟨fr,lh,sh⟩=
  if meets u jM ⟨false,[(.L,i)],[(.L,i)]⟩=true then ke E call n ds (jM++ [⟨false,[(.L,i)],[(.L,i)]⟩]) (gV E call n [⟨some i,.mksl z bytes x false,none⟩] ⟨fr,lh,sh⟩)else none:=by
 refine ve fun F=> ?_
 cases H:asNat (rd fr x)with
 |none=>
  obtain⟨v,C,r,D⟩:=yb (q:= .fail) (by rfl) (by rw[lq];simp only[jf,H]) F
  simp[Q.run]at r
 |some k=>
  obtain⟨v,C,r,D⟩:=yb (q:=if k*bytes≤roomy&&k≤roomy then oT i false (.cells (repl z k) 0 (nmZ z)) (fun sp k' g=> .isl sp k' g 0 k z.length)else .fail) (by rfl) (by rw[lq];simp only[jf,H];rfl) F
  split at r
  ·rename_i I
   rw[if_pos I]at D
   simp[oT,Q.run]at r
   obtain⟨rfl,rfl⟩:=r
   exact D rfl
  ·simp[Q.run]at r
def ab2:T→Bool
 | .ptr .L .. =>true
 |_=>false
theorem W8{k g off:Nat}:ab2 (.ptr .L k g off)=true:=nr rfl
theorem aw2{x v:iz}{m:Nat}(C:ab2 (rd fr x)=true)(J:froz (rd fr v)=true):iK E call n ((u,⟨none,.st x v m,none⟩)::ds) jM ⟨fr,lh,sh⟩=
  if meets u jM ⟨false,sI (rd fr x),sI (rd fr x)⟩=true then ke E call n ds (jM++ [⟨false,sI (rd fr x),sI (rd fr x)⟩]) (gV E call n [⟨none,.st x v m,none⟩] ⟨fr,lh,sh⟩)else none:=by
 refine ve fun H=> ?_
 cases Kv:rd fr x with
 |ptr sp k g off=>
  cases sp with
  |S=>rw[Kv]at C;simp[ab2]at C
  |L=>
   by_cases I:(decide ((cellsOf (rd fr v)).length≠m)|| !noTup (rd fr v))=true
   ·obtain⟨w,F,i,r⟩:=yb (q:= .fail) (by rfl) (by rw[lq];simp only[jf,vS,Kv];rw[if_pos I]) H
    simp[Q.run]at i
   ·obtain⟨w,F,i,r⟩:=yb (q:= .rd .L k (abb k g off m (rd fr v))) (by rfl) (by rw[lq];simp only[jf,vS,Kv];rw[if_neg I];rfl) H
    simp only[Q.run,Q.log,Q.asks,Pe]at i r
    generalize a6 lh k=e at i r
    obtain⟨K,ob⟩:=e
    unfold abb at i r
    by_cases D:K=g
    ·cases ob with
     |none=>simp[D,Q.run]at i
     |map ks U z=>simp[D,Q.run]at i
     |cells cs wm bx=>
      simp only[D,if_true]at i r
      split at i
      ·rename_i N
       rw[if_pos N]at r
       cases bx with
       |true=>
        simp[Q.run]at i
        obtain⟨rfl,rfl⟩:=i
        exact r rfl
       |false=>
        unfold iB at i r
        simp only[Bool.false_and,Bool.false_eq_true,if_false]at i r
        rw[pP J]at i r
        simp only[Q.bind]at i r
        split at i
        ·simp[Q.run]at i
        ·rename_i O
         rw[if_neg O]at r
         simp[Q.run]at i
         obtain⟨rfl,rfl⟩:=i
         exact r rfl
      ·simp[Q.run]at i
    ·simp only[D,if_false,Q.run]at i
     cases i
 |_=>rw[Kv]at C;simp[ab2]at C
theorem ab3{op:mO}{j:Nat}{w:Bool}(h:an fr j= .b w):iK E call n ((u,⟨d,op,some (j,w)⟩)::ds) jM ⟨fr,lh,sh⟩=iK E call n ((u,⟨d,op,none⟩)::ds) jM ⟨fr,lh,sh⟩:=by
 simp only[iK,jk,iW,h,if_true]
theorem W9{op:mO}{j:Nat}(h:an fr j= .b true):iK E call n ((u,⟨d,op,some (j,true)⟩)::ds) jM ⟨fr,lh,sh⟩=iK E call n ((u,⟨d,op,none⟩)::ds) jM ⟨fr,lh,sh⟩:=ab3 h
theorem ab4{op:mO}{j:Nat}{w:Bool}(i:FE n d)(h:an fr j= .b (!w)∨an fr j=iY):iK E call n ((u,⟨d,op,some (j,w)⟩)::ds) jM ⟨fr,lh,sh⟩=iK E call n ds (jM++ [nW]) ⟨xZ fr d iY,lh,sh⟩:=by
 have r:jk E call ⟨d,op,some (j,w)⟩ ⟨fr,lh,sh⟩=some nW:=by
  unfold jk
  rcases h with h|h
  ·simp only[h];rw[if_neg (by cases w <;> simp)]
  ·simp only[h,iY]
 rw[ve (fp:=nW) (fun _=>r),Am,if_pos rfl]
 rcases h with h|h
 ·rw[MS i h];rfl
 ·rw[Pm i h];rfl
theorem Xa{i:Nat}{op:mO}{j:Nat}(r:i<n)(h:an fr j= .b false):iK E call n ((u,⟨some i,op,some (j,true)⟩)::ds) jM ⟨fr,lh,sh⟩=iK E call n ds (jM++ [nW]) ⟨kj fr i iY,lh,sh⟩:=ab4 (d:=some i) r (Or.inl h)
end
end Go.Ev
namespace Go.Ev
open Go
def fzW(m:Nat)(lh:hJ gR)(sh:List gR)(keep:Bool)(v:T):Option (T×List Up):=(fz keep (m+1) v).run (St.mk .nil lh sh).get sh.length
def FG(m:Nat)(lh:hJ gR)(sh:List gR)(keep:Bool)(i:List T):Option (List T×List Up):=(iZ (fz keep (m+1)) i).run (St.mk .nil lh sh).get sh.length
section
variable{m:Nat}{lh:hJ gR}{sh:List gR}{keep:Bool}
theorem Bv{v:T}(h:froz1 v=true):fzW m lh sh keep v=some (v,[]):=by unfold fzW;rw[wJ h];rfl
theorem Ic{k g off len sz:Nat}:fzW m lh sh keep (.isl .L k g off len sz)=Wt m lh sh k (a6 lh k) g off len sz:=by
 cases keep <;> exact aqY (a6 lh k)
theorem aiN{k g:Nat}:fzW m lh sh keep (.mp .L k g)=mpV k (a6 lh k) g:=by
 cases keep <;> exact mpQ (a6 lh k)
theorem Xb:FG m lh sh keep []=some ([],[]):=rfl
theorem RW{v:T}{i:List T}:FG m lh sh keep (v::i)=(fzW m lh sh keep v).bind fun p=>(FG m lh sh keep i).bind fun q=>some (p.1::q.1,p.2++q.2):=by
 unfold FG fzW
 rw[iZ,js]
 congr 1
 funext p
 rw[js]
 rfl
theorem Xc{cs:List T}:fzV lh sh keep (.agg cs)=(FG 6 lh sh keep cs).map fun q=>(.agg q.1,q.2):=aa9
theorem Xd{cs:List T}:fzV lh sh keep (.tup cs)=(FG 6 lh sh keep cs).map fun q=>(.tup q.1,q.2):=aba
theorem Xe{cs:List T}:fzW (m+1) lh sh keep (.agg cs)=(FG m lh sh keep cs).map fun q=>(.agg q.1,q.2):=by
 unfold fzW FG
 rw[H4,js]
 cases (iZ (fz keep (m+1)) cs).run (St.mk .nil lh sh).get sh.length <;> rfl
theorem Xf{i:Bool}{v:T}:RH lh sh i [v]=(fzV lh sh i v).map fun p=>(p.1,((St.mk .nil lh sh).ups p.2).sh):=rfl
theorem RX{i:Bool}{v u:T}{r:List T}:RH lh sh i (v::u::r)=(fzV lh sh i (.tup (v::u::r))).map fun p=>(p.1,((St.mk .nil lh sh).ups p.2).sh):=rfl
end
theorem art{x y:List Nat}:xV (.one .str) (.s x) (.s y)=some (decide (x=y)):=by
 simp only[xV,lN,Bool.beq_eq_decide_eq]
theorem aru{k:IntKind}{x y:Int}:xV (.one .int) (.i k x) (.i k y)=some (decide (x=y)):=by
 simp_all[xV,lN,Bool.beq_eq_decide_eq]
theorem aiO{k:IntKind}{x y:Int}{s t:List Nat}:xV (.flat [.int,.str]) (.agg [.i k x,.s s]) (.agg [.i k y,.s t])=some (decide (x=y∧s=t)):=by
 simp only[xV,jX,lN,if_true,Bool.beq_eq_decide_eq]
 grind
theorem Ch{x:List Nat}:isKey (.one .str) (.s x)=true:=nr rfl
theorem ago{k:IntKind}{x:Int}:isKey (.one .int) (.i k x)=true:=nr rfl
theorem Xg{k:IntKind}{x:Int}{s:List Nat}:isKey (.flat [.int,.str]) (.agg [.i k x,.s s])=true:=nr rfl
def arv(r:Option Bool)(i:Option (Option Nat)):Option (Option Nat):=
 match r with
 |some true=>some (some 0)
 |some false=>i.map fun r=>r.map (· +1)
 |none=>none
theorem RY{kk:EK}{k x:T}{xs:List T}:nz kk k (x::xs)=arv (xV kk k x) (nz kk k xs):=rfl
def lkF(D:List T)(z:T)(C:Bool)(r:Option (Option Nat)):Option T:=
 match r with
 |some (some i)=>D[i]?.map fun v=>if C=true then .tup [v,.b true]else v
 |some none=>some (if C=true then .tup [z,.b false]else z)
 |none=>none
theorem Pt{kk:EK}{ks i:List T}{k z:T}{r:Bool}(h:isKey kk k=true):nX kk ks i k z r=lkF i z r (nz kk k ks):=by
 grind [nX,lkF]
theorem Kw{r:List T}{z:T}{C:Bool}{i:Nat}:lkF r z C (some (some i))=r[i]?.map fun v=>if C=true then .tup [v,.b true]else v:=rfl
def aiP(ks C:List T)(k v:T)(r:Option (Option Nat)):Option (List T×List T):=
 match r with
 |some (some i)=>some (ks.set i k,C.set i v)
 |some none=>some (ks++ [k],C++ [v])
 |none=>none
theorem ab5{kk:EK}{ks i:List T}{k v:T}:rB kk k v ks i=aiP ks i k v (nz kk k ks):=by
 grind [rB,aiP]
theorem RZ{ks i:List T}{k v:T}:aiP ks i k v (some none)=some (ks++ [k],i++ [v]):=rfl
theorem ju{g i:Nat}{ks r:List T}{z:Bool}{C:EK}{k u:T}{D:Bool}:lkE ⟨i,.map ks r z⟩ g C k u D=if i=g then nX C ks r k u D else none:=rfl
theorem vf{lh:hJ gR}{kk g r:Nat}{ks C:List T}{i:EK}{k v:T}:muE lh kk ⟨r,.map ks C false⟩ g i k v=if r=g∧isKey i k=true then(rB i k v ks C).map fun q=>pk lh kk ⟨g,.map q.1 q.2 false⟩else none:=rfl
end Go.Ev
namespace Go.Ev
open Go
section
variable{E:Env}{call:rh}{n:Nat}{fr:Fr}{lh:hJ gR}{sh:List gR}{os:List be}{d:Nat}
theorem Xh{z:List T}(i:d<n):gV E call n (⟨some d,.alloc z true,none⟩::os) ⟨fr,lh,sh⟩=gV E call n os ⟨kj fr d (.ptr .S sh.length 1 0),lh,jP sh sh.length ⟨1,.cells z 0 true⟩⟩:=by
 rw[qL (by rfl) (show FE n (some d)from i)];rfl
theorem Xi(i:d<n):gV E call n (⟨some d,.mkmap true,none⟩::os) ⟨fr,lh,sh⟩=gV E call n os ⟨kj fr d (.mp .S sh.length 1),lh,jP sh sh.length ⟨1,.map [] [] false⟩⟩:=by
 rw[qL (by rfl) (show FE n (some d)from i)];rfl
theorem R5{e:gR}{l:List gR}:jr (e::l) 0=e:=rfl
theorem Xj{v:gR}:jP [] 0 v= [v]:=rfl
theorem R6{e v:gR}{l:List gR}:jP (e::l) 0 v=v::l:=rfl
theorem tR{e v:gR}{l:List gR}{k:Nat}:jP (e::l) (k+1) v=e::jP l k v:=rfl
def D8(lh:hJ gR)(sh:List gR)(k:Nat)(e:gR)(g off:Nat)(v:T)(m:Nat):Option (hJ gR×List gR):=
 match e with
 |⟨i,.cells cs wm bx⟩=>if i=g∧(cellsOf v).length=m∧noTup v=true∧wm≤off∧off+m≤cs.length then some (lh,jP sh k ⟨g,.cells (splice cs off (cellsOf v)) wm bx⟩)else none
 |_=>none
def R7(k g off m:Nat)(v:T)(e:gR):Q Du:=if e.g=g then match e.ob with
     | .cells cs wm bx=>if wm≤off&&off+m≤cs.length then
         (if bx&&Sp.S== .L then .ret (.val iY [(Sp.S,k,⟨g,.cells (splice cs off (cellsOf v)) wm bx⟩)])
         else(fz (bx&&Sp.S== .S) iB v).bind fun p=>if pf p.2 .S k|| !noTup p.1||(cellsOf p.1).length≠m then .fail else .ret (.val iY (p.2++ [(Sp.S,k,⟨g,.cells (splice cs off (cellsOf p.1)) wm bx⟩)])))
       else .fail
     |_=> .fail
    else .fail
theorem ab6{k g off m:Nat}{v:T}(e:gR)(C:(cellsOf v).length=m)(D:noTup v=true)(F:froz v=true):nO lh sh (Q.run (St.mk .nil lh sh).get sh.length (R7 k g off m v e))=D8 lh sh k e g off v m:=by
 obtain⟨H,ob⟩:=e
 unfold D8 R7
 by_cases I:H=g
 ·subst I
  cases ob with
  |none=>simp[Q.run,nO]
  |map ks K z=>simp[Q.run,nO]
  |cells cs wm bx=>
   by_cases i:wm≤off∧off+m≤cs.length
   ·have r:(decide (wm≤off)&&decide (off+m≤cs.length))=true:=by simp[i.1,i.2]
    have ZU:(bx&&Sp.S==Sp.L)=false:=by cases bx <;> rfl
    unfold iB
    simp only[if_true,r,ZU,Bool.false_eq_true,if_false]
    rw[pP F]
    have J:(pf [] Sp.S k|| !noTup v||decide ((cellsOf v).length≠m))=false:=by simp[pf,C,D]
    simp only[Q.bind,J,Bool.false_eq_true,if_false,Q.run,nO]
    rw[if_pos ⟨trivial,C,D,i⟩]
    rfl
   grind [Bool.false_eq_true,Q.run,nO]
 grind [Q.run,nO]
theorem arw{k g off m:Nat}{v:T}(C:froz v=true):oh lh sh (.ptr .S k g off) v m=D8 lh sh k (jr sh k) g off v m:=by
 by_cases i:(cellsOf v).length=m
 ·cases r:noTup v with
  |false=>
   unfold oh vS
   have:(decide ((cellsOf v).length≠m)|| !noTup v)=true:=by simp[r]
   simp only[this,if_true,Q.run]
   unfold D8
   grind
  |true=>
   unfold oh vS
   have:(decide ((cellsOf v).length≠m)|| !noTup v)=false:=by simp[i,r]
   simp only[this,Bool.false_eq_true,if_false]
   exact ab6 (jr sh k) i r C
 ·unfold oh vS
  have:(decide ((cellsOf v).length≠m)|| !noTup v)=true:=by simp[i]
  simp only[this,if_true,Q.run]
  unfold D8
  grind
theorem M6{k g i off m wm:Nat}{cs:List T}{bx:Bool}{v:T}:D8 lh sh k ⟨i,.cells cs wm bx⟩ g off v m=if i=g∧(cellsOf v).length=m∧noTup v=true∧wm≤off∧off+m≤cs.length then some (lh,jP sh k ⟨g,.cells (splice cs off (cellsOf v)) wm bx⟩)else none:=rfl
end
section
variable{E:Env}{call:rh}{n:Nat}{fr:Fr}{lh:hJ gR}{sh:List gR}{ds:List (List Nat×be)}{jM:List FP}{u:List Nat}{d:Option Nat}
def tS:T→List (Sp×Nat)
 | .mp sp k _=> [(sp,k)]
 |_=> []
theorem Xk{sp:Sp}{k g:Nat}:tS (.mp sp k g)= [(sp,k)]:=rfl
theorem ab7{h:Sp→Nat→gR}{i:Nat}{o:Option T}:(val o).log h i= []:=by cases o <;> rfl
theorem aw4{i:EK}{m k:iz}{z:T}{r:Bool}:iK E call n ((u,⟨d,.lk i m k z r,none⟩)::ds) jM ⟨fr,lh,sh⟩=
  if meets u jM ⟨false,tS (rd fr m),[]⟩=true then ke E call n ds (jM++ [⟨false,tS (rd fr m),[]⟩]) (gV E call n [⟨d,.lk i m k z r,none⟩] ⟨fr,lh,sh⟩)else none:=by
 refine ve fun D=> ?_
 obtain⟨F,D0⟩:=H7 (d:=d.getD 0) (ρ:=(St.mk fr lh sh).rho) (op:= .lk i m k z r) rfl
 obtain⟨v,H,I,J⟩:=yb D0 rfl D
 obtain⟨rfl,C⟩:=Q.calm_run _ F I
 have K:(jf (d.getD 0) (St.mk fr lh sh).rho (.lk i m k z r)).log (St.mk fr lh sh).get sh.length=tS (rd fr m):=by
  rw[lq]
  grind [tS,jf,Q.log,ab7]
 have:=J (by rw[C];simp[yi])
 rw[this,C,K];rfl
def ab8:T→Bool
 | .mp .L .. =>true
 |_=>false
theorem ab9{k g:Nat}:ab8 (.mp .L k g)=true:=nr rfl
theorem aw5{C:EK}{m k v:iz}(O:ab8 (rd fr m)=true)(D:froz (rd fr v)=true):iK E call n ((u,⟨none,.mu C m k v,none⟩)::ds) jM ⟨fr,lh,sh⟩=
  if meets u jM ⟨false,tS (rd fr m),tS (rd fr m)⟩=true then ke E call n ds (jM++ [⟨false,tS (rd fr m),tS (rd fr m)⟩]) (gV E call n [⟨none,.mu C m k v,none⟩] ⟨fr,lh,sh⟩)else none:=by
 refine ve fun F=> ?_
 cases Kv:rd fr m with
 |mp sp kk g=>
  cases sp with
  |S=>grind [ab8]
  |L=>
   obtain⟨w,H,i,r⟩:=yb (q:= .rd .L kk (abf kk g C (rd fr k) (rd fr v))) (by rfl) (by rw[lq];simp only[jf,Kv];rfl) F
   simp only[Q.run,Q.log,Q.asks,Pe]at i r
   generalize a6 lh kk=e at i r
   obtain⟨I,ob⟩:=e
   unfold abf at i r
   by_cases J:(decide (I=g)&&isKey C (rd fr k))=true
   ·simp only[J,if_true]at i r
    cases ob with
    |none=>simp[Q.run]at i
    |cells cs wm bx=>simp[Q.run]at i
    |map ks U K=>
     cases K with
     |true=>simp[Q.run]at i
     |false=>
      simp only[]at i r
      unfold iB at i r
      rw[pP D]at i r
      simp only[Q.bind]at i r
      split at i
      ·rename_i q N
       simp only[pf,List.any_nil,Bool.false_eq_true,if_false,Q.run,Option.some.injEq,Du.val.injEq]at i
       obtain⟨rfl,rfl⟩:=i
       rw[N]at r
       simp only[pf,List.any_nil,Bool.false_eq_true,if_false]at r
       exact r rfl
      ·simp[Q.run]at i
   grind [Bool.false_eq_true,Q.run]
 |_=>grind [ab8]
end
section
variable{E:Env}{call:rh}{n:Nat}{fr:Fr}{lh:hJ gR}{sh:List gR}{ds:List (List Nat×be)}{jM:List FP}{d:Option Nat}
theorem Ie{r:Bool}{C sz bytes:Nat}{s x:T}{v:T}{i:List Up}{st:St}(hs:notS s=true)(h:(rA C sz bytes s x false r).run st.get st.sh.length=some (.val v i)):yi st i=true:=by
 unfold rA at h
 rw[js]at h
 cases D:(jQ sz x).run st.get st.sh.length with
 |none=>grind
 |some p=>
  rw[D]at h
  simp only[Option.bind_some]at h
  split at h
  ·split at h
   ·simp[Q.run]at h;rw[h.2];rfl
   ·simp[Q.run]at h;rw[h.2];rfl
   ·simp[Q.run]at h;rw[h.2];rfl
   ·simp[Q.run]at h
  ·split at h
   ·split at h
    ·simp[oT,Q.run]at h;rw[←h.2];rfl
    ·simp[Q.run]at h
   ·split at h
    ·simp[oT,Q.run]at h;rw[←h.2];rfl
    ·simp[Q.run]at h
   ·rename_i sp k g off len F
    cases sp with
    |S=>simp[notS]at hs
    |L=>
     split at h
     ·simp only[Q.run]at h
      split at h
      ·split at h
       ·split at h
        ·simp[Q.run]at h;rw[←h.2];rfl
        ·simp[Q.run]at h
       ·simp[Q.run]at h
      ·simp[Q.run]at h
     ·simp[Q.run]at h
   ·simp[Q.run]at h
def noU:List (List Nat×be)→Bool
 | []=>true
 |(u,_)::ds=>u.isEmpty&&noU ds
theorem aca:noU []=true:=nr rfl
theorem Xl{o:be}{ds:List (List Nat×be)}:noU (([],o)::ds)=noU ds:=nr rfl
theorem D9: ∀(ds:List (List Nat×be)) (jM i:List FP) (st:St),noU ds=true→iK E call n ds jM st=iK E call n ds i st
 | [],_,_,_,_=>rfl
 |(u,o)::ds,jM,i,st,h=>by
  simp only[noU,Bool.and_eq_true,List.isEmpty_iff]at h
  obtain⟨rfl,h⟩:=h
  simp only[iK,List.all_nil,if_true]
  cases jk E call o st with
  |none=>rfl
  |some fp=>
   simp only[]
   cases iW E call n o st with
   |none=>rfl
   |some s=>exact D9 ds _ _ s h
theorem aiQ{i:Bool}{sz bytes:Nat}{s x:iz}(hs:notS (rd fr s)=true)(D:noU ds=true):iK E call n (([],⟨d,.app sz bytes s x false i,none⟩)::ds) jM ⟨fr,lh,sh⟩=
  ke E call n ds (jM++ [nW]) (gV E call n [⟨d,.app sz bytes s x false i,none⟩] ⟨fr,lh,sh⟩):=by
 rw[ve (fp:=(jk E call ⟨d,.app sz bytes s x false i,none⟩ ⟨fr,lh,sh⟩).getD nW)]
 ·show ke _ _ _ _ _ _=_
  unfold ke
  cases gV E call n [⟨d,.app sz bytes s x false i,none⟩] ⟨fr,lh,sh⟩with
  |none=>rfl
  |some s=>grind [D9]
 ·intro r
  obtain⟨v,C,F,H⟩:=yb (q:=rA (d.getD 0) sz bytes (rd fr s) (rd fr x) false i) (by rfl) (by rw[lq];rfl) r
  grind [Ie]
end
end Go.Ev
