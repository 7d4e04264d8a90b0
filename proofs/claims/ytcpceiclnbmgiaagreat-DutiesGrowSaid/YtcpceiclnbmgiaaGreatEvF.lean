/- A tree evaluator over the model, proved against it (part F): where it answers, the call returns that answer. Conditions: none beyond its theorems' own. -/
import Derived.Test.YtcpceiclnbmgiaaGreatEvE
set_option linter.unusedSimpArgs false
set_option linter.unusedVariables false
namespace Go.Ev
open Go
theorem ahD{x:Bool}:froz (.b x)=true:=nr rfl
theorem ahE{k:IntKind}{n:Int}:froz (.i k n)=true:=nr rfl
theorem ahF{l:List Nat}:froz (.s l)=true:=nr rfl
theorem Mf:froz .nilsl=true:=nr rfl
theorem aaX{cs:List T}{n:Nat}{e:Bool}:froz (.sl cs n e)=true:=nr rfl
theorem aaY{cs:List T}:froz (.vp cs)=true:=nr rfl
theorem JR{cs:List T}:froz (.agg cs)=cs.all froz1:=nr rfl
theorem Vd{cs:List T}:froz (.tup cs)=cs.all froz1:=nr rfl
theorem aaZ{x:Bool}:froz1 (.b x)=true:=nr rfl
theorem ym{k:IntKind}{n:Int}:froz1 (.i k n)=true:=nr rfl
theorem Ha{l:List Nat}:froz1 (.s l)=true:=nr rfl
theorem JS:froz1 .nilsl=true:=nr rfl
theorem Ve{cs:List T}{n:Nat}{e:Bool}:froz1 (.sl cs n e)=true:=nr rfl
theorem Hb:froz1 .nilptr=true:=nr rfl
theorem QU{cs:List T}:cellsOf (.agg cs)=cs:=nr rfl
theorem aa0{x:Bool}:cellsOf (.b x)= [.b x]:=nr rfl
theorem aa1{k:IntKind}{n:Int}:cellsOf (.i k n)= [.i k n]:=nr rfl
theorem aa2{l:List Nat}:cellsOf (.s l)= [.s l]:=nr rfl
theorem Vf{cs:List T}{n:Nat}{e:Bool}:cellsOf (.sl cs n e)= [.sl cs n e]:=nr rfl
theorem QV{sp:Sp}{a b c d e:Nat}:cellsOf (.isl sp a b c d e)= [.isl sp a b c d e]:=nr rfl
theorem Vg{cs:List T}:cellsOf (.vp cs)= [.vp cs]:=nr rfl
theorem Vh{sp:Sp}{a b:Nat}:cellsOf (.mp sp a b)= [.mp sp a b]:=nr rfl
theorem QW{cs:List T}:noTup (.agg cs)=true:=nr rfl
theorem aa3{x:Bool}:noTup (.b x)=true:=nr rfl
theorem aa4{k:IntKind}{n:Int}:noTup (.i k n)=true:=nr rfl
theorem aa5{l:List Nat}:noTup (.s l)=true:=nr rfl
theorem Vi{cs:List T}{n:Nat}{e:Bool}:noTup (.sl cs n e)=true:=nr rfl
theorem QX{sp:Sp}{a b c d e:Nat}:noTup (.isl sp a b c d e)=true:=nr rfl
theorem Vj{cs:List T}:noTup (.vp cs)=true:=nr rfl
theorem Vk{sp:Sp}{a b:Nat}:noTup (.mp sp a b)=true:=nr rfl
theorem Mg:notS .nilsl=true:=nr rfl
theorem Vl{a b c d e:Nat}:notS (.isl .L a b c d e)=true:=nr rfl
theorem aa6{a b:Nat}:notS (.mp .L a b)=true:=nr rfl
theorem aa7{cs:List T}{n:Nat}{e:Bool}:rz (.sl cs n e)=some n:=nr rfl
theorem Vm:lenI .nilsl=some (.i .i64 0):=nr rfl
theorem aa8{cs:List T}{n:Nat}{e:Bool}:lenI (.sl cs n e)=some (.i .i64 n):=nr rfl
theorem Vn{sp:Sp}{a b c d e:Nat}:lenI (.isl sp a b c d e)=some (.i .i64 d):=nr rfl
theorem Vo{x:Bool}:scalar (.b x)=true:=nr rfl
theorem Vp{k:IntKind}{n:Int}:scalar (.i k n)=true:=nr rfl
theorem Mh{cs:List T}:scalar (.agg cs)=false:=nr rfl
section
variable{lh:gW b8}{sh:List b8}{m g off k:Nat}{ag:Bool}
theorem ahG{cs:List T}:Y7 lh sh (.vp cs) m ag=Ev.part cs 0 m ag:=rfl
theorem arI:Y7 lh sh (.ptr .L k g off) m ag=ldE (b7 lh k) g off m ag:=rfl
theorem arJ:Y7 lh sh (.ptr .S k g off) m ag=ldE (gY sh k) g off m ag:=rfl
theorem ahH{cs:List T}:faV (.vp cs) off=if off≤cs.length then some (.vp (cs.drop off))else none:=rfl
theorem aa9{sp:Sp}{o:Nat}:faV (.ptr sp k g o) off=some (.ptr sp k g (o+off)):=rfl
theorem aba{cs:List T}:QJ (.vp cs)=some (.vp cs):=rfl
theorem Vq{sp:Sp}{o:Nat}:QJ (.ptr sp k g o)=some (.ptr sp k g o):=rfl
theorem Vr{i:List T}:aal (.tup i) m=i[m]? :=rfl
theorem abb{l:List Nat}:Oc (.s l)=some (.i .i64 l.length):=rfl
theorem ahI{kk r:IntKind}{n:Int}:aah kk (.i r n)=some (.i kk (wr kk n)):=rfl
theorem tg{m k g i off len sz wm:Nat}{lh:gW b8}{sh:List b8}{cs:List T}:QL m lh sh k ⟨i,.cells cs wm false⟩ g off len sz=if i=g∧off+len*sz≤cs.length then some (.sl ((cs.drop off).take (len*sz)) len false,[(.L,k,⟨g,.cells cs cs.length false⟩)])else none:=rfl
theorem abc{k g r:Nat}{ks i:List T}{z:Bool}:mpV k ⟨r,.map ks i z⟩ g=if r=g then some (.vm ks i,[(.L,k,⟨g,.map ks i true⟩)])else none:=rfl
theorem wF{g i off len sz r bytes wm:Nat}{p:Nat×List T}{cs:List T}:QN lh k ⟨i,.cells cs wm false⟩ g off len sz r bytes p=if r=sz∧off=0∧(len+p.1)*bytes≤roomy∧i=g∧len*sz=cs.length then some (.isl .L k (g+1) 0 (len+p.1) sz,nj lh k ⟨g+1,.cells (cs++p.2) wm false⟩)else none:=rfl
theorem yn{d sz bytes n:Nat}{cs:List T}:Ma lh d sz bytes .nilsl (n+1,cs)=if(n+1)*bytes≤roomy then some (.isl .L d ((b7 lh d).g+1) 0 (n+1) sz,nj lh d ⟨(b7 lh d).g+1,.cells cs 0 false⟩)else none:=by
 unfold Ma;rw[if_neg (Nat.succ_ne_zero n)]
theorem Dt{d sz i bytes n g off len:Nat}{cs:List T}:Ma lh d sz bytes (.isl .L k g off len i) (n+1,cs)=QN lh k (b7 lh k) g off len sz i bytes (n+1,cs):=by
 unfold Ma;rw[if_neg (Nat.succ_ne_zero n)]
end
theorem nR{α:Type}{f:α→List T}{sz:Nat}(i: ∀x,(f x).length=sz): ∀xs:List α,(xs.flatMap f).length=xs.length*sz
 | []=>by simp
 |x::xs=>by simp[List.flatMap_cons,i,nR i xs,Nat.succ_mul,Nat.add_comm]
theorem FT{α:Type}{f:α→List T}{sz:Nat}(i: ∀x,(f x).length=sz): ∀(xs:List α) (k:Nat) (hk:k<xs.length),(xs.flatMap f).drop (k*sz)=f xs[k]++(xs.drop (k+1)).flatMap f
 | [],k,hk=>by simp at hk
 |x::xs,0,hk=>by grind
 |x::xs,k+1,hk=>by
  have r:(k+1)*sz=(f x).length+k*sz:=by rw[i,Nat.succ_mul,Nat.add_comm]
  have D:List.drop ((f x).length+k*sz) (f x)= []:=List.drop_eq_nil_of_le (by omega)
  rw[List.flatMap_cons,r,List.drop_append,D,Nat.add_sub_cancel_left,FT i xs k (by simpa using hk)]
  rfl
def ints(xs:List Int):List T:=xs.map (T.i .i64)
theorem kH(xs:List Int):(ints xs).length=xs.length:=by simp[ints]
theorem qe(xs:List Int)(k:Nat)(hk:k<xs.length):(ints xs).drop k=T.i .i64 xs[k]::(ints xs).drop (k+1):=by
 rw[List.drop_eq_getElem_cons (by rw[kH];exact hk)];simp[ints]
def IsSl(v:T)(n:Nat)(cs:List T):Prop:=(v= .nilsl∧n=0∧cs= [])∨ ∃ex,v= .sl cs n ex
theorem IsSl.len{v:T}{n:Nat}{cs:List T}(h:IsSl v n cs):rz v=some n:=by
 rcases h with⟨rfl,rfl,_⟩|⟨ex,rfl⟩ <;> rfl
theorem IsSl.lenI{v:T}{n:Nat}{cs:List T}(h:IsSl v n cs):lenI v=some (.i .i64 (n:Int)):=aaJ h.len
theorem IsSl.froz1{v:T}{n:Nat}{cs:List T}(h:IsSl v n cs):froz1 v=true:=by
 rcases h with⟨rfl,_,_⟩|⟨ex,rfl⟩ <;> rfl
theorem IsSl.froz{v:T}{n:Nat}{cs:List T}(h:IsSl v n cs):froz v=true:=by
 rcases h with⟨rfl,_,_⟩|⟨ex,rfl⟩ <;> rfl
theorem IsSl.cells{v:T}{n:Nat}{cs:List T}(h:IsSl v n cs):cellsOf v= [v]:=by
 rcases h with⟨rfl,_,_⟩|⟨ex,rfl⟩ <;> rfl
theorem IsSl.noTup{v:T}{n:Nat}{cs:List T}(h:IsSl v n cs):noTup v=true:=by
 rcases h with⟨rfl,_,_⟩|⟨ex,rfl⟩ <;> rfl
theorem IsSl.ia{v:T}{n sz k:Nat}{cs:List T}{kk:IntKind}(h:IsSl v n cs)(hc:cs.length=n*sz)(hk:k<n):lH v (.i kk (k:Int)) sz=some (.vp (cs.drop (k*sz))):=by
 rcases h with⟨rfl,rfl,_⟩|⟨ex,rfl⟩
 ·omega
 grind [nQ,Int.toNat_natCast,Nat.mul_le_mul_right]
theorem IsSl.slC{v:T}{n sz:Nat}{cs:List T}{lh:gW b8}{sh:List b8}(h:IsSl v n cs)(hc:cs.length=n*sz):slC lh sh sz v=some (n,cs):=by
 rcases h with⟨rfl,rfl,rfl⟩|⟨ex,rfl⟩
 ·rfl
 ·rw[G6,if_pos hc]
end Go.Ev
namespace Go.Ev
open Go
section
variable(E:Env)(n:Nat)(b:fx)(fr:Fr)(lh:gW b8)(sh:List b8)
noncomputable def tT:Fr:=match DC E n (.loop b) ⟨fr,lh,sh⟩with|some (_,st)=>st.fr|none=>fr
noncomputable def nE:gW b8:=match DC E n (.loop b) ⟨fr,lh,sh⟩with|some (_,st)=>st.lh|none=>lh
noncomputable def oi:List b8:=match DC E n (.loop b) ⟨fr,lh,sh⟩with|some (_,st)=>st.sh|none=>sh
end
section
variable{E:Env}{n:Nat}{b:fx}{fr:Fr}{lh:gW b8}{sh:List b8}{o:Out}
theorem Vt{s:Nat}(h:(jU (.loop b)).contains s=false):an (tT E n b fr lh sh) s=an fr s:=by
 unfold tT
 cases i:DC E n (.loop b) ⟨fr,lh,sh⟩with
 |none=>rfl
 |some p=>obtain⟨o,st⟩:=p;exact lB i s h
def mh:List Nat→Nat
 | []=>0
 |s::i=>(1 <<< s) ||| mh i
theorem Hc(s:Nat): ∀l:List Nat,s∈l→(mh l).testBit s=true
 | [],h=>by simp at h
 |x::xs,h=>by
  rw[mh,Nat.testBit_or]
  rcases List.mem_cons.1 h with h|h
  ·grind
  ·rw[Hc s xs h];simp
theorem FU{s:Nat}(h:(mh (jU (.loop b)) >>> s)%2=0):an (tT E n b fr lh sh) s=an fr s:=by
 refine Vt ?_
 cases hc:(jU (.loop b)).contains s with
 |false=>rfl
 |true=>
  have i:=Hc s _ (List.contains_iff_mem.1 hc)
  grind [Nat.testBit]
theorem QY{P:Fr→gW b8→List b8→Prop}(h: ∃i r D,DC E n (.loop b) ⟨fr,lh,sh⟩=some (o,⟨i,r,D⟩)∧P i r D):
  DC E n (.loop b) ⟨fr,lh,sh⟩=some (o,⟨tT E n b fr lh sh,nE E n b fr lh sh,oi E n b fr lh sh⟩)∧P (tT E n b fr lh sh) (nE E n b fr lh sh) (oi E n b fr lh sh):=by
 grind [tT,nE,oi]
end
end Go.Ev
namespace Go.Ev
open Go
theorem JT(m:Nat)(F:m≤62)(a:Int):Ev.bin .and (.i .i64 a) (.i .i64 (2 ^ m-1))=some (.i .i64 (a%2 ^ m)):=by
 have r:(2:Int) ^ m=((2 ^ m:Nat):Int):=by norm_cast
 have N:0<2 ^ m:=Nat.two_pow_pos m
 have H:2 ^ m≤2 ^ 62:=Nat.pow_le_pow_right (by omega) F
 have Vu:(BitVec.ofInt 64 ((2:Int) ^ m-1)).toNat=2 ^ m-1:=by
  grind
 have D:(BitVec.ofInt 64 a &&& BitVec.ofInt 64 ((2:Int) ^ m-1)).toNat=(a%2 ^ m).toNat:=by
  rw[BitVec.toNat_and,Vu,Nat.and_two_pow_sub_one_eq_mod,BitVec.toNat_ofInt]
  have I:0≤a%((2 ^ 64:Nat):Int):=Int.emod_nonneg _ (by omega)
  have O:(a%((2 ^ 64:Nat):Int))%((2 ^ m:Nat):Int)=a%((2 ^ m:Nat):Int):=Int.emod_emod_of_dvd a (by
   have:(2 ^ m:Nat)∣2 ^ 64:=Nat.pow_dvd_pow 2 (by omega)
   exact Int.natCast_dvd_natCast.2 this)
  have U:(((a%((2 ^ 64:Nat):Int)).toNat%2 ^ m:Nat):Int)=a%((2 ^ m:Nat):Int):=by
   grind
  grind
 have V:(IntKind.i64).bits=64:=rfl
 simp only[Ev.bin,if_true,rT]
 have J:0≤a%2 ^ m:=by rw[r];exact Int.emod_nonneg _ (by omega)
 have K:a%2 ^ m<2 ^ m:=by rw[r];exact Int.emod_lt_of_pos _ (by omega)
 grind [IntKind.wrap]
section
variable{a:Int}
theorem and_1:Ev.bin .and (.i .i64 a) (.i .i64 1)=some (.i .i64 (a%2)):=JT 1 (by omega) a
theorem QZ:Ev.bin .and (.i .i64 a) (.i .i64 65535)=some (.i .i64 (a%65536)):=JT 16 (by omega) a
theorem Om{k k':IntKind}{b:Int}:Ev.bin .shr (.i k a) (.i k' b)=if b<0 then none else some (.i k (a.fdiv (2 ^ (min b.toNat k.bits)))):=by
 simp only[Ev.bin,CP]
theorem BR{k':IntKind}{b:Nat}(h:b≤64):Ev.bin .shr (.i .i64 a) (.i k' (b:Int))=some (.i .i64 (a/2 ^ b)):=by
 rw[Om,if_neg (by omega),Int.toNat_natCast]
 have:min b (IntKind.i64).bits=b:=Nat.min_eq_left h
 grind
theorem arK{k':IntKind}:Ev.bin .shr (.i .i64 a) (.i k' 3)=some (.i .i64 (a/8)):=BR (b:=3) (by omega)
theorem arL{k':IntKind}:Ev.bin .shr (.i .i64 a) (.i k' 4)=some (.i .i64 (a/16)):=BR (b:=4) (by omega)
end
theorem vZ{n:Int}(h:0≤n∧n≤18446744073709551615):wr .u64 n=n:=by grind [wr,lo,hi]
theorem lb{a b:Int}(h:0≤a):a.tmod b=a%b:=Int.tmod_eq_emod_of_nonneg h
end Go.Ev
namespace Go.Ev
open Go
theorem Du(x:FP):apart x nz=true:=by
 obtain⟨a,r,w⟩:=x
 simp[apart,lW,nz,Lk]
theorem Mi(x:FP):apart nz x=true:=by
 obtain⟨a,r,w⟩:=x
 simp[apart,lW,nz,Lk]
theorem Vv{r i w w':List (Sp×Nat)}:apart ⟨false,r,w⟩ ⟨false,i,w'⟩=(lW w i&&lW w w'&&lW r w'):=by
 simp[apart]
theorem Mj{i:List (Sp×Nat)}:lW [] i=true:=rfl
theorem JU{x:Sp×Nat}{xs i:List (Sp×Nat)}:lW (x::xs) i=(!i.contains x&&lW xs i):=rfl
theorem abd{x:Sp×Nat}:([]:List (Sp×Nat)).contains x=false:=rfl
theorem Vw{a c:Sp}{b d:Nat}{ys:List (Sp×Nat)}:((c,d)::ys).contains (a,b)=((decide (a=c)&&decide (b=d))||ys.contains (a,b)):=by
 rw[List.contains_cons]
 have:((a,b)==(c,d))=(decide (a=c)&&decide (b=d)):=by
  cases a <;> cases c <;> by_cases h:b=d <;> simp[h]
 rw[this]
def lY:l9→Bool
 | .mv _| .pick .. | .bin .. | .eq .. | .un .. | .cvi .. | .b2s _| .mkfn .. | .build .. | .slS .. | .fa .. | .fld .. | .ia .. | .iaA .. | .ixS .. | .ixA .. | .ext .. | .lenS _| .lenV _| .lenC _| .mm .. | .nck _=>true
 | .slV _ _ _ _ none=>true
 |_=>false
theorem abe{x:im}:lY (.mv x)=true:=nr rfl
theorem Q0{c a b:im}:lY (.pick c a b)=true:=nr rfl
theorem Vx{o:BinOp}{x y:im}:lY (.bin o x y)=true:=nr rfl
theorem abf{o:UnOp}{x:im}:lY (.un o x)=true:=nr rfl
theorem Vy{k:IntKind}{x:im}:lY (.cvi k x)=true:=nr rfl
theorem pk{x:im}:lY (.b2s x)=true:=nr rfl
theorem Mk{z:List T}{ps:List (Nat×Nat×im)}:lY (.build z ps)=true:=nr rfl
theorem abg{x:im}{o:Nat}:lY (.fa x o)=true:=nr rfl
theorem abh{x y:im}{m:Nat}:lY (.ia x y m)=true:=nr rfl
theorem Vz{x y:im}{m k:Nat}:lY (.iaA x y m k)=true:=nr rfl
theorem VA{x:im}{j:Nat}:lY (.ext x j)=true:=nr rfl
theorem Q1{x:im}:lY (.lenV x)=true:=nr rfl
theorem VB{x:im}:lY (.nck x)=true:=nr rfl
theorem JV{m:Nat}{x:im}{l h:Option im}:lY (.slV m x l h none)=true:=nr rfl
def Q.plain:Q CN→Prop
 | .ret (.val _ i)=>i= []
 | .fail=>True
 | .rd _ _ _=>False
 | .new _=>False
theorem Q.plain_run{h:Sp→Nat→b8}{r:Nat}: ∀(q:Q CN),q.plain→ ∀{v:T} {i:List Up},q.run h r=some (.val v i)→i= []∧q.asks h r=false∧q.log h r= []
 | .ret (.val _ _),hc,v,i,hr=>by simp[Q.run]at hr;obtain⟨rfl,rfl⟩:=hr;exact⟨hc,rfl,rfl⟩
 | .fail,hc,v,i,hr=>by simp[Q.run]at hr
 | .rd sp k f,hc,v,i,hr=>hc.elim
 | .new f,hc,v,i,hr=>hc.elim
theorem mI{o:Option T}:(val o).plain:=by cases o <;> simp[val,Q.plain]
theorem VC{d:Nat}{ρ:im→T}{op:l9}(h:lY op=true):(iX d ρ op).plain∧jd ρ op=none:=by
 refine⟨?_,by cases op <;> first|rfl|(simp[lY]at h)⟩
 cases op with
 |mv x=>exact rfl
 |pick c a b=>simp only[iX];split <;> simp[Q.plain]
 |bin op x y=>exact mI
 |eq neg k x y=>exact mI
 |un op x=>exact mI
 |cvi k x=>simp only[iX];split <;> simp[Q.plain]
 |b2s x=>simp only[iX];repeat' split
         all_goals trivial
 |mkfn f a c=>exact rfl
 |build z ps=>
  simp only[iX]
  by_cases r:(ps.all fun p=>decide ((cellsOf (ρ p.2.2)).length=p.2.1)&&noTup (ρ p.2.2))=true
  ·rw[if_pos r];exact mI
  ·rw[if_neg r];trivial
 |slS x l h=>
  simp only[iX]
  split
  ·split
   ·split <;> simp[Q.plain]
   ·trivial
  ·trivial
 |fa x off=>
  simp only[iX]
  split
  ·split <;> simp[Q.plain]
  ·exact rfl
  ·trivial
 |fld x off m ag=>
  simp only[iX]
  split
  ·exact mI
  ·trivial
 |ia x i sz=>
  simp only[iX]
  split
  ·split <;> simp[Q.plain]
  ·split <;> simp[Q.plain]
  ·trivial
 |iaA x i len sz=>
  simp only[iX]
  split
  ·split <;> simp[Q.plain]
  ·split <;> simp[Q.plain]
  ·trivial
 |ixS x i=>
  simp only[iX]
  split
  ·split <;> simp[Q.plain]
  ·trivial
 |ixA x i len sz ag=>
  simp only[iX]
  split
  ·split
   ·exact mI
   ·trivial
  ·trivial
 |ext x j=>
  simp only[iX]
  split
  ·exact mI
  ·trivial
 |lenS x=>simp only[iX];split <;> simp[Q.plain]
 |lenV x=>exact mI
 |lenC m=>exact rfl
 |mm b as=>
  simp only[iX]
  split
  ·exact mI
  ·trivial
 |nck x=>simp only[iX];split <;> simp[Q.plain]
 |slV sz x l h D=>
  cases D with
  |some m=>simp[lY]at h
  |none=>
   simp only[iX]
   split
   ·trivial
   ·split
    ·unfold AO
     split
     ·split <;> simp[Q.bind,Q.plain]
     ·split <;> simp[Q.bind,Q.plain]
     ·split <;> simp[Q.bind,Q.plain]
     ·trivial
    ·rename_i F;exact absurd F (by simp)
    ·trivial
 |_=>simp[lY]at h
def ke(E:Env)(call:pw)(n:Nat)(ds:List (List Nat×dy))(jl:List FP)(x:Option St):Option St:=x.bind (iw E call n ds jl)
def meets(u:List Nat)(jl:List FP)(fp:FP):Bool:=u.all fun i=>apart (ig ⟨true,[],[]⟩ jl i) fp
section
variable{E:Env}{call:pw}{n:Nat}{fr:Fr}{lh:gW b8}{sh:List b8}{ds:List (List Nat×dy)}{jl:List FP}{u:List Nat}{d:Option Nat}
theorem abi{st:St}:ke E call n ds jl (some st)=iw E call n ds jl st:=rfl
theorem abj:ke E call n ds jl none=none:=rfl
theorem ahJ{c:Prop}[Decidable c]{x y:Option St}:ke E call n ds jl (if c then x else y)=if c then ke E call n ds jl x else ke E call n ds jl y:=by split <;> rfl
theorem Q2{fp:FP}:meets [] jl fp=true:=rfl
theorem Ml{i:Nat}{fp:FP}:meets (i::u) jl fp=(apart (ig ⟨true,[],[]⟩ jl i) fp&&meets u jl fp):=rfl
theorem ux:meets u jl nz=true:=by
 unfold meets
 rw[List.all_eq_true]
 intro i _
 exact Du _
theorem Q3{st:St}:DC E n (.draws ds) st=(iw E (be E) n ds [] st).map fun i=>(.nrm,i):=JL
theorem sk{o:dy}{fp:FP}{st:St}(h:iN E call n o st≠none→jy E call o st=some fp):
  iw E call n ((u,o)::ds) jl st=if meets u jl fp=true then ke E call n ds (jl++ [fp]) (dE E call n [o] st)else none:=by
 simp only[iw]
 unfold meets ke
 cases i:iN E call n o st with
 |none=>
  have r:dE E call n [o] st=none:=by simp only[dE,i]
  rw[r]
  cases jy E call o st with
  |none=>simp
  |some D=>simp
 |some s=>
  have r:dE E call n [o] st=some s:=by simp only[dE,i]
  rw[r,h (by rw[i];simp)]
  rfl
theorem tU{op:l9}{st:St}{q:Q CN}(F:jd st.rho op=none)(I:iX (d.getD 0) st.rho op=q)(D:iN E call n ⟨d,op,none⟩ st≠none):
  ∃v i,q.run st.get st.sh.length=some (.val v i)∧((q.asks st.get st.sh.length||inB st i)=true→jy E call ⟨d,op,none⟩ st=some ⟨q.asks st.get st.sh.length,q.log st.get st.sh.length,jX i⟩):=by
 subst I
 unfold iN at D
 simp only[F]at D
 cases H:(iX (d.getD 0) st.rho op).run st.get st.sh.length with
 |none=>simp only[H]at D;exact absurd rfl D
 |some r=>
  obtain⟨v,i⟩:=r
  refine⟨v,i,rfl,fun J=> ?_⟩
  unfold jy
  simp only[F,H]
  rw[if_pos J]
theorem ahK{op:l9}(F:lY op=true):iw E call n ((u,⟨d,op,none⟩)::ds) jl ⟨fr,lh,sh⟩=ke E call n ds (jl++ [nz]) (dE E call n [⟨d,op,none⟩] ⟨fr,lh,sh⟩):=by
 rw[sk (fp:=nz),ux,if_pos rfl]
 intro i
 obtain⟨H,I⟩:=VC (d:=d.getD 0) (ρ:=(St.mk fr lh sh).rho) F
 unfold iN at i
 unfold jy
 simp only[I]at i ⊢
 cases D:(iX (d.getD 0) (St.mk fr lh sh).rho op).run (St.mk fr lh sh).get sh.length with
 |none=>simp only[D]at i;exact absurd rfl i
 |some r=>
  obtain⟨v,J⟩:=r
  obtain⟨rfl,K,N⟩:=Q.plain_run _ H D
  simp only[K,N,inB,List.all_nil,Bool.or_true,if_true,jX,List.map_nil]
  rfl
def q9:T→List (Sp×Nat)
 | .ptr sp k _ _=> [(sp,k)]
 |_=> []
theorem VD{cs:List T}:q9 (.vp cs)= []:=rfl
theorem Q4{sp:Sp}{k g off:Nat}:q9 (.ptr sp k g off)= [(sp,k)]:=rfl
theorem Q.log_bind{α β:Type}{h:Sp→Nat→b8}{i:Nat}{f:α→Q β}(r: ∀a,(f a).log h i= []): ∀q:Q α,(q.bind f).log h i=q.log h i
 | .ret a=>r a
 | .fail=>rfl
 | .rd sp k g=>by show(sp,k)::((g (h sp k)).bind f).log h i=(sp,k)::(g (h sp k)).log h i;rw[Q.log_bind r (g (h sp k))]
 | .new g=>Q.log_bind r (g i)
theorem axX{x:im}{m:Nat}{ag:Bool}:iw E call n ((u,⟨d,.ld x m ag,none⟩)::ds) jl ⟨fr,lh,sh⟩=
  if meets u jl ⟨false,q9 (rd fr x),[]⟩=true then ke E call n ds (jl++ [⟨false,q9 (rd fr x),[]⟩]) (dE E call n [⟨d,.ld x m ag,none⟩] ⟨fr,lh,sh⟩)else none:=by
 refine sk ?_
 intro i
 obtain⟨H,I⟩:=G8 (d:=d.getD 0) (ρ:=(St.mk fr lh sh).rho) (op:= .ld x m ag) rfl
 unfold iN at i
 unfold jy
 simp only[I]at i ⊢
 cases F:(iX (d.getD 0) (St.mk fr lh sh).rho (.ld x m ag)).run (St.mk fr lh sh).get sh.length with
 |none=>simp only[F]at i;exact absurd rfl i
 |some r=>
  obtain⟨v,J⟩:=r
  obtain⟨rfl,K⟩:=Q.calm_run _ H F
  have N:(iX (d.getD 0) (St.mk fr lh sh).rho (.ld x m ag)).log (St.mk fr lh sh).get sh.length=q9 (rd fr x):=by
   rw[ko]
   simp only[iX]
   rw[Q.log_bind (fun a=>rfl)]
   unfold GC q9
   cases hx:rd fr x <;> try rfl
   ·simp only[];generalize Ev.part _ _ _ _=o;cases o <;> rfl
   ·rename_i sp k g off
    simp only[Q.log]
    congr 1
    generalize (St.mk fr lh sh).get sp k=e
    obtain⟨O,ob⟩:=e
    by_cases D:O=g
    ·cases ob with
     |cells cs wm bx=>simp only[D,if_true];generalize Ev.part _ _ _ _=o;cases o <;> rfl
     |_=>simp only[D,if_true];rfl
    ·simp only[D,if_false];rfl
  simp only[K,N,inB,List.all_nil,Bool.or_true,if_true,jX,List.map_nil]
theorem FV{keep:Bool}{m:Nat}{h:Sp→Nat→b8}{r:Nat}: ∀(ts:List T),ts.all froz=true→(iL (fz keep (m+2)) ts).log h r= []
 | [],_=>rfl
 |t::ts,i=>by
  simp only[List.all_cons,Bool.and_eq_true]at i
  simp only[iL,oX i.1,Q.bind]
  rw[Q.log_bind (fun a=>rfl),FV ts i.2]
theorem af8{f:Nat}{af:gP}{as:List im}(F:E.fn f=some af)(H:af.eff=false)(I:af.own=none)(D:(as.map (rd fr)).all froz=true):
  iw E call n ((u,⟨d,.callf f as,none⟩)::ds) jl ⟨fr,lh,sh⟩=ke E call n ds (jl++ [nz]) (dE E call n [⟨d,.callf f as,none⟩] ⟨fr,lh,sh⟩):=by
 rw[sk (fp:=nz),ux,if_pos rfl]
 intro i
 unfold iN at i
 unfold jy
 have J:jd (St.mk fr lh sh).rho (.callf f as)=some (some (f,as.map (rd fr))):=by rw[ko];rfl
 simp only[J]at i ⊢
 rw[I8 F H I D]at i
 unfold lD
 have K:(iL (fz af.eff iq) (as.map (rd fr))).run (St.mk fr lh sh).get sh.length=some (as.map (rd fr),[]):=by
  have:=yl (lh:=lh) (sh:=sh) (keep:=af.eff) D
  unfold BJ at this
  rw[qu];exact this
 simp only[F]
 rw[K]
 simp only[inB,List.all_nil,Bool.not_true,Bool.false_eq_true,if_false,H,I]
 cases hc:call f (as.map (rd fr)) []with
 |none=>rw[hc]at i;exact absurd rfl i
 |some r=>
  simp only[jX,List.map_nil,ite_self]
  have:(iL (fz false iq) (as.map (rd fr))).log (St.mk fr lh sh).get sh.length= []:=FV _ D
  rw[this];rfl
theorem arM{z:List T}{len:Nat}{ps:List (Nat×im)}(D:(ps.map fun p=>rd fr p.2).all froz=true):
  iw E call n ((u,⟨d,.bsl z len ps,none⟩)::ds) jl ⟨fr,lh,sh⟩=ke E call n ds (jl++ [nz]) (dE E call n [⟨d,.bsl z len ps,none⟩] ⟨fr,lh,sh⟩):=by
 rw[sk (fp:=nz),ux,if_pos rfl]
 intro F
 have H:iL (fz false iq) (ps.map fun p=>rd fr p.2)= .ret (ps.map (fun p=>rd fr p.2),[]):=by
  have: ∀(ts:List T),ts.all froz=true→iL (fz false iq) ts= .ret (ts,[]):=by
   intro ts
   induction ts with
   |nil=>intro _;rfl
   |cons t ts ih=>
    intro i
    simp only[List.all_cons,Bool.and_eq_true]at i
    rw[iL,ih i.2]
    unfold iq
    rw[oX i.1];rfl
  exact this _ D
 obtain⟨v,I,hr,r⟩:=tU (q:=if((ps.map fun p=>rd fr p.2).all fun v=>decide ((cellsOf v).length=z.length)&&noTup v)=true then(match pO (repl z len) ((ps.map fun p=>p.1*z.length).zip ((ps.map fun p=>rd fr p.2).map cellsOf))with|some cs=>Q.ret (.val (.sl cs len true) [])|none=> .fail)else .fail) (by rfl) (by rw[ko];simp only[iX];rw[H];rfl) F
 split at hr
 ·split at hr
  ·simp[Q.run]at hr
   obtain⟨rfl,rfl⟩:=hr
   rename_i J _ _ K
   rw[if_pos J,K]at r
   exact r rfl
  ·simp[Q.run]at hr
 ·simp[Q.run]at hr
theorem abk{i:Nat}{z:List T}:iw E call n ((u,⟨some i,.alloc z false,none⟩)::ds) jl ⟨fr,lh,sh⟩=
  if meets u jl ⟨false,[(.L,i)],[(.L,i)]⟩=true then ke E call n ds (jl++ [⟨false,[(.L,i)],[(.L,i)]⟩]) (dE E call n [⟨some i,.alloc z false,none⟩] ⟨fr,lh,sh⟩)else none:=
 sk fun _=>rfl
theorem ahL{i:Nat}{z:List T}{bytes:Nat}{x:im}:iw E call n ((u,⟨some i,.mksl z bytes x false,none⟩)::ds) jl ⟨fr,lh,sh⟩=
  if meets u jl ⟨false,[(.L,i)],[(.L,i)]⟩=true then ke E call n ds (jl++ [⟨false,[(.L,i)],[(.L,i)]⟩]) (dE E call n [⟨some i,.mksl z bytes x false,none⟩] ⟨fr,lh,sh⟩)else none:=by
 refine sk fun F=> ?_
 cases H:asNat (rd fr x)with
 |none=>
  obtain⟨v,r,hr,D⟩:=tU (q:= .fail) (by rfl) (by rw[ko];simp only[iX,H]) F
  simp[Q.run]at hr
 |some k=>
  obtain⟨v,r,hr,D⟩:=tU (q:=if k*bytes≤roomy&&k≤roomy then nH i false (.cells (repl z k) 0 (Uc z)) (fun sp k' g=> .isl sp k' g 0 k z.length)else .fail) (by rfl) (by rw[ko];simp only[iX,H];rfl) F
  split at hr
  ·rename_i I
   rw[if_pos I]at D
   simp[nH,Q.run]at hr
   obtain⟨rfl,rfl⟩:=hr
   exact D rfl
  ·simp[Q.run]at hr
def abl:T→Bool
 | .ptr .L .. =>true
 |_=>false
theorem VE{k g off:Nat}:abl (.ptr .L k g off)=true:=nr rfl
theorem axY{x v:im}{m:Nat}(hx:abl (rd fr x)=true)(I:froz (rd fr v)=true):iw E call n ((u,⟨none,.st x v m,none⟩)::ds) jl ⟨fr,lh,sh⟩=
  if meets u jl ⟨false,q9 (rd fr x),q9 (rd fr x)⟩=true then ke E call n ds (jl++ [⟨false,q9 (rd fr x),q9 (rd fr x)⟩]) (dE E call n [⟨none,.st x v m,none⟩] ⟨fr,lh,sh⟩)else none:=by
 refine sk fun F=> ?_
 cases Ew:rd fr x with
 |ptr sp k g off=>
  cases sp with
  |S=>rw[Ew]at hx;simp[abl]at hx
  |L=>
   by_cases H:(decide ((cellsOf (rd fr v)).length≠m)|| !noTup (rd fr v))=true
   ·obtain⟨w,D,hr,i⟩:=tU (q:= .fail) (by rfl) (by rw[ko];simp only[iX,ry,Ew];rw[if_pos H]) F
    simp[Q.run]at hr
   ·obtain⟨w,D,hr,i⟩:=tU (q:= .rd .L k (aar k g off m (rd fr v))) (by rfl) (by rw[ko];simp only[iX,ry,Ew];rw[if_neg H];rfl) F
    simp only[Q.run,Q.log,Q.asks,N9]at hr i
    generalize b7 lh k=e at hr i
    obtain⟨J,ob⟩:=e
    unfold aar at hr i
    by_cases r:J=g
    ·cases ob with
     |none=>simp[r,Q.run]at hr
     |map ks N z=>simp[r,Q.run]at hr
     |cells cs wm bx=>
      simp only[r,if_true]at hr i
      split at hr
      ·rename_i hc
       rw[if_pos hc]at i
       cases bx with
       |true=>
        simp[Q.run]at hr
        obtain⟨rfl,rfl⟩:=hr
        exact i rfl
       |false=>
        unfold iq at hr i
        simp only[Bool.false_and,Bool.false_eq_true,if_false]at hr i
        rw[oX I]at hr i
        simp only[Q.bind]at hr i
        split at hr
        ·simp[Q.run]at hr
        ·rename_i K
         rw[if_neg K]at i
         simp[Q.run]at hr
         obtain⟨rfl,rfl⟩:=hr
         exact i rfl
      ·simp[Q.run]at hr
    ·simp only[r,if_false,Q.run]at hr
     cases hr
 |_=>rw[Ew]at hx;simp[abl]at hx
theorem On{op:l9}{j:Nat}{w:Bool}(h:an fr j= .b w):iw E call n ((u,⟨d,op,some (j,w)⟩)::ds) jl ⟨fr,lh,sh⟩=iw E call n ((u,⟨d,op,none⟩)::ds) jl ⟨fr,lh,sh⟩:=by
 simp only[iw,jy,iN,h,if_true]
theorem VF{op:l9}{j:Nat}(h:an fr j= .b true):iw E call n ((u,⟨d,op,some (j,true)⟩)::ds) jl ⟨fr,lh,sh⟩=iw E call n ((u,⟨d,op,none⟩)::ds) jl ⟨fr,lh,sh⟩:=On h
theorem VG{op:l9}{j:Nat}(h:an fr j= .b false):iw E call n ((u,⟨d,op,some (j,false)⟩)::ds) jl ⟨fr,lh,sh⟩=iw E call n ((u,⟨d,op,none⟩)::ds) jl ⟨fr,lh,sh⟩:=On h
theorem Oo{op:l9}{j:Nat}{w:Bool}(i:Eu n d)(h:an fr j= .b (!w)∨an fr j=iG):iw E call n ((u,⟨d,op,some (j,w)⟩)::ds) jl ⟨fr,lh,sh⟩=iw E call n ds (jl++ [nz]) ⟨vH fr d iG,lh,sh⟩:=by
 have r:jy E call ⟨d,op,some (j,w)⟩ ⟨fr,lh,sh⟩=some nz:=by
  unfold jy
  rcases h with h|h
  ·simp only[h];rw[if_neg (by cases w <;> simp)]
  ·simp only[h,iG]
 rw[sk (fp:=nz) (fun _=>r),ux,if_pos rfl]
 rcases h with h|h
 ·rw[Mb i h];rfl
 ·rw[Oe i h];rfl
theorem VH{i:Nat}{op:l9}{j:Nat}(r:i<n)(h:an fr j= .b false):iw E call n ((u,⟨some i,op,some (j,true)⟩)::ds) jl ⟨fr,lh,sh⟩=iw E call n ds (jl++ [nz]) ⟨jV fr i iG,lh,sh⟩:=Oo (d:=some i) r (Or.inl h)
theorem VI{i:Nat}{op:l9}{j:Nat}(r:i<n)(h:an fr j= .b true):iw E call n ((u,⟨some i,op,some (j,false)⟩)::ds) jl ⟨fr,lh,sh⟩=iw E call n ds (jl++ [nz]) ⟨jV fr i iG,lh,sh⟩:=Oo (d:=some i) r (Or.inl h)
end
end Go.Ev
namespace Go.Ev
open Go
def fzW(m:Nat)(lh:gW b8)(sh:List b8)(keep:Bool)(v:T):Option (T×List Up):=(fz keep (m+1) v).run (St.mk .nil lh sh).get sh.length
def wG(m:Nat)(lh:gW b8)(sh:List b8)(keep:Bool)(i:List T):Option (List T×List Up):=(iL (fz keep (m+1)) i).run (St.mk .nil lh sh).get sh.length
section
variable{m:Nat}{lh:gW b8}{sh:List b8}{keep:Bool}
theorem Ai{v:T}(h:froz1 v=true):fzW m lh sh keep v=some (v,[]):=by unfold fzW;rw[ph h];rfl
theorem Hd{k g off len sz:Nat}:fzW m lh sh keep (.isl .L k g off len sz)=QL m lh sh k (b7 lh k) g off len sz:=by
 cases keep <;> exact ari (b7 lh k)
theorem ahM{k g:Nat}:fzW m lh sh keep (.mp .L k g)=mpV k (b7 lh k) g:=by
 cases keep <;> exact mpQ (b7 lh k)
theorem VJ:wG m lh sh keep []=some ([],[]):=rfl
theorem Q5{v:T}{i:List T}:wG m lh sh keep (v::i)=(fzW m lh sh keep v).bind fun p=>(wG m lh sh keep i).bind fun q=>some (p.1::q.1,p.2++q.2):=by
 unfold wG fzW
 rw[iL,iS]
 congr 1
 funext p
 rw[iS]
 rfl
theorem Dv{i:List T}(h:i.all froz1=true):wG m lh sh keep i=some (i,[]):=by
 unfold wG;rw[nk i h];rfl
theorem VK{cs:List T}:fzV lh sh keep (.agg cs)=(wG 6 lh sh keep cs).map fun q=>(.agg q.1,q.2):=aap
theorem VL{cs:List T}:fzV lh sh keep (.tup cs)=(wG 6 lh sh keep cs).map fun q=>(.tup q.1,q.2):=aaq
theorem VM{cs:List T}:fzW (m+1) lh sh keep (.agg cs)=(wG m lh sh keep cs).map fun q=>(.agg q.1,q.2):=by
 unfold fzW wG
 rw[G3,iS]
 cases (iL (fz keep (m+1)) cs).run (St.mk .nil lh sh).get sh.length <;> rfl
theorem VN{i:Bool}{v:T}:QR lh sh i [v]=(fzV lh sh i v).map fun p=>(p.1,((St.mk .nil lh sh).ups p.2).sh):=rfl
theorem Q6{i:Bool}{v u:T}{r:List T}:QR lh sh i (v::u::r)=(fzV lh sh i (.tup (v::u::r))).map fun p=>(p.1,((St.mk .nil lh sh).ups p.2).sh):=rfl
end
theorem arN{x y:List Nat}:vD (.one .str) (.s x) (.s y)=some (decide (x=y)):=by
 simp only[vD,lu,Bool.beq_eq_decide_eq]
theorem arO{k:IntKind}{x y:Int}:vD (.one .int) (.i k x) (.i k y)=some (decide (x=y)):=by
 simp_all[vD,lu,Bool.beq_eq_decide_eq]
theorem ahN{k:IntKind}{x y:Int}{s t:List Nat}:vD (.flat [.int,.str]) (.agg [.i k x,.s s]) (.agg [.i k y,.s t])=some (decide (x=y∧s=t)):=by
 simp only[vD,jx,lu,if_true,Bool.beq_eq_decide_eq]
 grind
theorem Bd{x:List Nat}:isKey (.one .str) (.s x)=true:=nr rfl
theorem aeX{k:IntKind}{x:Int}:isKey (.one .int) (.i k x)=true:=nr rfl
theorem VO{k:IntKind}{x:Int}{s:List Nat}:isKey (.flat [.int,.str]) (.agg [.i k x,.s s])=true:=nr rfl
def arP(r:Option Bool)(i:Option (Option Nat)):Option (Option Nat):=
 match r with
 |some true=>some (some 0)
 |some false=>i.map fun r=>r.map (· +1)
 |none=>none
theorem Q7{kk:EK}{k x:T}{xs:List T}:mK kk k (x::xs)=arP (vD kk k x) (mK kk k xs):=rfl
def lkF(F:List T)(z:T)(D:Bool)(r:Option (Option Nat)):Option T:=
 match r with
 |some (some i)=>F[i]?.map fun v=>if D=true then .tup [v,.b true]else v
 |some none=>some (if D=true then .tup [z,.b false]else z)
 |none=>none
theorem Oq{kk:EK}{ks i:List T}{k z:T}{r:Bool}(h:isKey kk k=true):na kk ks i k z r=lkF i z r (mK kk k ks):=by
 grind [na,lkF]
theorem JW{r:List T}{z:T}{D:Bool}{i:Nat}:lkF r z D (some (some i))=r[i]?.map fun v=>if D=true then .tup [v,.b true]else v:=rfl
def ahO(ks D:List T)(k v:T)(r:Option (Option Nat)):Option (List T×List T):=
 match r with
 |some (some i)=>some (ks.set i k,D.set i v)
 |some none=>some (ks++ [k],D++ [v])
 |none=>none
theorem abm{kk:EK}{ks i:List T}{k v:T}:qj kk k v ks i=ahO ks i k v (mK kk k ks):=by
 grind [qj,ahO]
theorem Q8{ks i:List T}{k v:T}:ahO ks i k v (some none)=some (ks++ [k],i++ [v]):=rfl
theorem ju{g i:Nat}{ks r:List T}{z:Bool}{ek:EK}{k u:T}{D:Bool}:lkE ⟨i,.map ks r z⟩ g ek k u D=if i=g then na ek ks r k u D else none:=rfl
theorem th{lh:gW b8}{kk g i:Nat}{ks r:List T}{ek:EK}{k v:T}:muE lh kk ⟨i,.map ks r false⟩ g ek k v=if i=g∧isKey ek k=true then(qj ek k v ks r).map fun q=>nj lh kk ⟨g,.map q.1 q.2 false⟩else none:=rfl
end Go.Ev
namespace Go.Ev
open Go
section
variable{E:Env}{call:pw}{n:Nat}{fr:Fr}{lh:gW b8}{sh:List b8}{os:List dy}{d:Nat}
theorem VP{z:List T}(i:d<n):dE E call n (⟨some d,.alloc z true,none⟩::os) ⟨fr,lh,sh⟩=dE E call n os ⟨jV fr d (.ptr .S sh.length 1 0),lh,iu sh sh.length ⟨1,.cells z 0 true⟩⟩:=by
 rw[pg (by rfl) (show Eu n (some d)from i)];rfl
theorem VQ(i:d<n):dE E call n (⟨some d,.mkmap true,none⟩::os) ⟨fr,lh,sh⟩=dE E call n os ⟨jV fr d (.mp .S sh.length 1),lh,iu sh sh.length ⟨1,.map [] [] false⟩⟩:=by
 rw[pg (by rfl) (show Eu n (some d)from i)];rfl
theorem Q9{e:b8}{l:List b8}:gY (e::l) 0=e:=rfl
theorem sq{e:b8}{l:List b8}{k:Nat}:gY (e::l) (k+1)=gY l k:=rfl
theorem VR{v:b8}:iu [] 0 v= [v]:=rfl
theorem Ra{e v:b8}{l:List b8}:iu (e::l) 0 v=v::l:=rfl
theorem sr{e v:b8}{l:List b8}{k:Nat}:iu (e::l) (k+1) v=e::iu l k v:=rfl
def Dw(lh:gW b8)(sh:List b8)(k:Nat)(e:b8)(g off:Nat)(v:T)(m:Nat):Option (gW b8×List b8):=
 match e with
 |⟨i,.cells cs wm bx⟩=>if i=g∧(cellsOf v).length=m∧noTup v=true∧wm≤off∧off+m≤cs.length then some (lh,iu sh k ⟨g,.cells (splice cs off (cellsOf v)) wm bx⟩)else none
 |_=>none
def JX(k g off m:Nat)(v:T)(e:b8):Q CN:=if e.g=g then match e.ob with
     | .cells cs wm bx=>if wm≤off&&off+m≤cs.length then
         (if bx&&Sp.S== .L then .ret (.val iG [(Sp.S,k,⟨g,.cells (splice cs off (cellsOf v)) wm bx⟩)])
         else(fz (bx&&Sp.S== .S) iq v).bind fun p=>if oB p.2 .S k|| !noTup p.1||(cellsOf p.1).length≠m then .fail else .ret (.val iG (p.2++ [(Sp.S,k,⟨g,.cells (splice cs off (cellsOf p.1)) wm bx⟩)])))
       else .fail
     |_=> .fail
    else .fail
theorem abn{k g off m:Nat}{v:T}(e:b8)(D:(cellsOf v).length=m)(F:noTup v=true)(H:froz v=true):mY lh sh (Q.run (St.mk .nil lh sh).get sh.length (JX k g off m v e))=Dw lh sh k e g off v m:=by
 obtain⟨I,ob⟩:=e
 unfold Dw JX
 by_cases J:I=g
 ·subst J
  cases ob with
  |none=>simp[Q.run,mY]
  |map ks N z=>simp[Q.run,mY]
  |cells cs wm bx=>
   by_cases i:wm≤off∧off+m≤cs.length
   ·have r:(decide (wm≤off)&&decide (off+m≤cs.length))=true:=by simp[i.1,i.2]
    have LN:(bx&&Sp.S==Sp.L)=false:=by cases bx <;> rfl
    unfold iq
    simp only[if_true,r,LN,Bool.false_eq_true,if_false]
    rw[oX H]
    have K:(oB [] Sp.S k|| !noTup v||decide ((cellsOf v).length≠m))=false:=by simp[oB,D,F]
    simp only[Q.bind,K,Bool.false_eq_true,if_false,Q.run,mY]
    rw[if_pos ⟨trivial,D,F,i⟩]
    rfl
   grind [Bool.false_eq_true,Q.run,mY]
 grind [Q.run,mY]
theorem arQ{k g off m:Nat}{v:T}(D:froz v=true):stV lh sh (.ptr .S k g off) v m=Dw lh sh k (gY sh k) g off v m:=by
 by_cases i:(cellsOf v).length=m
 ·cases r:noTup v with
  |false=>
   unfold stV ry
   have:(decide ((cellsOf v).length≠m)|| !noTup v)=true:=by simp[r]
   simp only[this,if_true,Q.run]
   unfold Dw
   grind
  |true=>
   unfold stV ry
   have:(decide ((cellsOf v).length≠m)|| !noTup v)=false:=by simp[i,r]
   simp only[this,Bool.false_eq_true,if_false]
   exact abn (gY sh k) i r D
 ·unfold stV ry
  have:(decide ((cellsOf v).length≠m)|| !noTup v)=true:=by simp[i]
  simp only[this,if_true,Q.run]
  unfold Dw
  grind
theorem kz{k g i off m wm:Nat}{cs:List T}{bx:Bool}{v:T}:Dw lh sh k ⟨i,.cells cs wm bx⟩ g off v m=if i=g∧(cellsOf v).length=m∧noTup v=true∧wm≤off∧off+m≤cs.length then some (lh,iu sh k ⟨g,.cells (splice cs off (cellsOf v)) wm bx⟩)else none:=rfl
end
section
variable{E:Env}{call:pw}{n:Nat}{fr:Fr}{lh:gW b8}{sh:List b8}{ds:List (List Nat×dy)}{jl:List FP}{u:List Nat}{d:Option Nat}
def su:T→List (Sp×Nat)
 | .mp sp k _=> [(sp,k)]
 |_=> []
theorem VS{sp:Sp}{k g:Nat}:su (.mp sp k g)= [(sp,k)]:=rfl
theorem abo{h:Sp→Nat→b8}{i:Nat}{o:Option T}:(val o).log h i= []:=by cases o <;> rfl
theorem ax0{ek:EK}{m k:im}{z:T}{i:Bool}:iw E call n ((u,⟨d,.lk ek m k z i,none⟩)::ds) jl ⟨fr,lh,sh⟩=
  if meets u jl ⟨false,su (rd fr m),[]⟩=true then ke E call n ds (jl++ [⟨false,su (rd fr m),[]⟩]) (dE E call n [⟨d,.lk ek m k z i,none⟩] ⟨fr,lh,sh⟩)else none:=by
 refine sk fun D=> ?_
 obtain⟨F,H⟩:=G8 (d:=d.getD 0) (ρ:=(St.mk fr lh sh).rho) (op:= .lk ek m k z i) rfl
 obtain⟨v,I,hr,J⟩:=tU H rfl D
 obtain⟨rfl,r⟩:=Q.calm_run _ F hr
 have K:(iX (d.getD 0) (St.mk fr lh sh).rho (.lk ek m k z i)).log (St.mk fr lh sh).get sh.length=su (rd fr m):=by
  rw[ko]
  grind [su,iX,Q.log,abo]
 have:=J (by rw[r];simp[inB])
 rw[this,r,K];rfl
def abp:T→Bool
 | .mp .L .. =>true
 |_=>false
theorem abq{k g:Nat}:abp (.mp .L k g)=true:=nr rfl
theorem ax1{ek:EK}{m k v:im}(hx:abp (rd fr m)=true)(r:froz (rd fr v)=true):iw E call n ((u,⟨none,.mu ek m k v,none⟩)::ds) jl ⟨fr,lh,sh⟩=
  if meets u jl ⟨false,su (rd fr m),su (rd fr m)⟩=true then ke E call n ds (jl++ [⟨false,su (rd fr m),su (rd fr m)⟩]) (dE E call n [⟨none,.mu ek m k v,none⟩] ⟨fr,lh,sh⟩)else none:=by
 refine sk fun D=> ?_
 cases Ew:rd fr m with
 |mp sp kk g=>
  cases sp with
  |S=>grind [abp]
  |L=>
   obtain⟨w,F,hr,i⟩:=tU (q:= .rd .L kk (aav kk g ek (rd fr k) (rd fr v))) (by rfl) (by rw[ko];simp only[iX,Ew];rfl) D
   simp only[Q.run,Q.log,Q.asks,N9]at hr i
   generalize b7 lh kk=e at hr i
   obtain⟨H,ob⟩:=e
   unfold aav at hr i
   by_cases I:(decide (H=g)&&isKey ek (rd fr k))=true
   ·simp only[I,if_true]at hr i
    cases ob with
    |none=>simp[Q.run]at hr
    |cells cs wm bx=>simp[Q.run]at hr
    |map ks N J=>
     cases J with
     |true=>simp[Q.run]at hr
     |false=>
      simp only[]at hr i
      unfold iq at hr i
      rw[oX r]at hr i
      simp only[Q.bind]at hr i
      split at hr
      ·rename_i q K
       simp only[oB,List.any_nil,Bool.false_eq_true,if_false,Q.run,Option.some.injEq,CN.val.injEq]at hr
       obtain⟨rfl,rfl⟩:=hr
       rw[K]at i
       simp only[oB,List.any_nil,Bool.false_eq_true,if_false]at i
       exact i rfl
      ·simp[Q.run]at hr
   grind [Bool.false_eq_true,Q.run]
 |_=>grind [abp]
end
section
variable{E:Env}{call:pw}{n:Nat}{fr:Fr}{lh:gW b8}{sh:List b8}{ds:List (List Nat×dy)}{jl:List FP}{d:Option Nat}
theorem He{r:Bool}{D sz bytes:Nat}{s x:T}{v:T}{i:List Up}{st:St}(hs:notS s=true)(h:(oh D sz bytes s x false r).run st.get st.sh.length=some (.val v i)):inB st i=true:=by
 unfold oh at h
 rw[iS]at h
 cases hx:(jm sz x).run st.get st.sh.length with
 |none=>grind
 |some p=>
  rw[hx]at h
  simp only[Option.bind_some]at h
  split at h
  ·split at h
   ·simp[Q.run]at h;rw[h.2];rfl
   ·simp[Q.run]at h;rw[h.2];rfl
   ·simp[Q.run]at h;rw[h.2];rfl
   ·simp[Q.run]at h
  ·split at h
   ·split at h
    ·simp[nH,Q.run]at h;rw[←h.2];rfl
    ·simp[Q.run]at h
   ·split at h
    ·simp[nH,Q.run]at h;rw[←h.2];rfl
    ·simp[Q.run]at h
   ·rename_i sp k g off len F
    cases sp with
    |S=>simp[notS]at hs
    |L=>
     split at h
     ·simp only[Q.run]at h
      split at h
      ·split at h
       ·split at h
        ·simp[Q.run]at h;rw[←h.2];rfl
        ·simp[Q.run]at h
       ·simp[Q.run]at h
      ·simp[Q.run]at h
     ·simp[Q.run]at h
   ·simp[Q.run]at h
def noU:List (List Nat×dy)→Bool
 | []=>true
 |(u,_)::ds=>u.isEmpty&&noU ds
theorem abr:noU []=true:=nr rfl
theorem VT{o:dy}{ds:List (List Nat×dy)}:noU (([],o)::ds)=noU ds:=nr rfl
theorem JY: ∀(ds:List (List Nat×dy)) (jl i:List FP) (st:St),noU ds=true→iw E call n ds jl st=iw E call n ds i st
 | [],_,_,_,_=>rfl
 |(u,o)::ds,jl,i,st,h=>by
  simp only[noU,Bool.and_eq_true,List.isEmpty_iff]at h
  obtain⟨rfl,h⟩:=h
  simp only[iw,List.all_nil,if_true]
  cases jy E call o st with
  |none=>rfl
  |some fp=>
   simp only[]
   cases iN E call n o st with
   |none=>rfl
   |some s=>exact JY ds _ _ s h
theorem ahQ{i:Bool}{sz bytes:Nat}{s x:im}(hs:notS (rd fr s)=true)(F:noU ds=true):iw E call n (([],⟨d,.app sz bytes s x false i,none⟩)::ds) jl ⟨fr,lh,sh⟩=
  ke E call n ds (jl++ [nz]) (dE E call n [⟨d,.app sz bytes s x false i,none⟩] ⟨fr,lh,sh⟩):=by
 rw[sk (fp:=(jy E call ⟨d,.app sz bytes s x false i,none⟩ ⟨fr,lh,sh⟩).getD nz)]
 ·show ke _ _ _ _ _ _=_
  unfold ke
  cases dE E call n [⟨d,.app sz bytes s x false i,none⟩] ⟨fr,lh,sh⟩with
  |none=>rfl
  |some s=>grind [JY]
 ·intro r
  obtain⟨v,D,hr,H⟩:=tU (q:=oh (d.getD 0) sz bytes (rd fr s) (rd fr x) false i) (by rfl) (by rw[ko];rfl) r
  grind [He]
end
end Go.Ev
