/- A tree evaluator over the model, proved against it (part F): where it answers, the call returns that answer. Conditions: none beyond its theorems' own. -/
import Derived.Test.YtcpceiclnbmgiaaGreatEvE
set_option linter.unusedSimpArgs false
set_option linter.unusedVariables false
namespace Go.Ev
open Go
theorem aiF{x:Bool}:froz (.b x)=true:=nr rfl
theorem aiG{k:IntKind}{n:Int}:froz (.i k n)=true:=nr rfl
theorem aiH{l:List Nat}:froz (.s l)=true:=nr rfl
theorem M9:froz .nilsl=true:=nr rfl
theorem abJ{cs:List T}{n:Nat}{e:Bool}:froz (.sl cs n e)=true:=nr rfl
theorem abK{cs:List T}:froz (.vp cs)=true:=nr rfl
theorem KA{cs:List T}:froz (.agg cs)=cs.all froz1:=nr rfl
theorem V5{cs:List T}:froz (.tup cs)=cs.all froz1:=nr rfl
theorem abL{f:Nat}{a c:List T}:froz (.fn f a c)=(a.all froz1&&c.all froz1):=nr rfl
theorem abM{x:Bool}:froz1 (.b x)=true:=nr rfl
theorem zi{k:IntKind}{n:Int}:froz1 (.i k n)=true:=nr rfl
theorem HN{l:List Nat}:froz1 (.s l)=true:=nr rfl
theorem KB:froz1 .nilsl=true:=nr rfl
theorem V6{cs:List T}{n:Nat}{e:Bool}:froz1 (.sl cs n e)=true:=nr rfl
theorem HO:froz1 .nilptr=true:=nr rfl
theorem RJ{cs:List T}:cellsOf (.agg cs)=cs:=nr rfl
theorem abN{x:Bool}:cellsOf (.b x)= [.b x]:=nr rfl
theorem abO{k:IntKind}{n:Int}:cellsOf (.i k n)= [.i k n]:=nr rfl
theorem abP{l:List Nat}:cellsOf (.s l)= [.s l]:=nr rfl
theorem V7{cs:List T}{n:Nat}{e:Bool}:cellsOf (.sl cs n e)= [.sl cs n e]:=nr rfl
theorem RK{sp:Sp}{a b c d e:Nat}:cellsOf (.isl sp a b c d e)= [.isl sp a b c d e]:=nr rfl
theorem V8{cs:List T}:cellsOf (.vp cs)= [.vp cs]:=nr rfl
theorem V9{sp:Sp}{a b:Nat}:cellsOf (.mp sp a b)= [.mp sp a b]:=nr rfl
theorem RM{cs:List T}:noTup (.agg cs)=true:=nr rfl
theorem abQ{x:Bool}:noTup (.b x)=true:=nr rfl
theorem abR{k:IntKind}{n:Int}:noTup (.i k n)=true:=nr rfl
theorem abS{l:List Nat}:noTup (.s l)=true:=nr rfl
theorem Wa{cs:List T}{n:Nat}{e:Bool}:noTup (.sl cs n e)=true:=nr rfl
theorem RN{sp:Sp}{a b c d e:Nat}:noTup (.isl sp a b c d e)=true:=nr rfl
theorem Wb{cs:List T}:noTup (.vp cs)=true:=nr rfl
theorem Wc{sp:Sp}{a b:Nat}:noTup (.mp sp a b)=true:=nr rfl
theorem Na:notS .nilsl=true:=nr rfl
theorem Wd{a b c d e:Nat}:notS (.isl .L a b c d e)=true:=nr rfl
theorem abT{a b:Nat}:notS (.mp .L a b)=true:=nr rfl
theorem We:lenI .nilsl=some (.i .i64 0):=nr rfl
theorem abU{cs:List T}{n:Nat}{e:Bool}:lenI (.sl cs n e)=some (.i .i64 n):=nr rfl
theorem Wf{sp:Sp}{a b c d e:Nat}:lenI (.isl sp a b c d e)=some (.i .i64 d):=nr rfl
theorem Wg{x:Bool}:scalar (.b x)=true:=nr rfl
theorem Wh{k:IntKind}{n:Int}:scalar (.i k n)=true:=nr rfl
theorem Nb{cs:List T}:scalar (.agg cs)=false:=nr rfl
section
variable{lh:iq b8}{sh:List b8}{m g off k:Nat}{ag:Bool}
theorem aiI{cs:List T}:ZS lh sh (.vp cs) m ag=Ev.part cs 0 m ag:=rfl
theorem asB:ZS lh sh (.ptr .L k g off) m ag=ldE (b7 lh k) g off m ag:=rfl
theorem asC:ZS lh sh (.ptr .S k g off) m ag=ldE (iz sh k) g off m ag:=rfl
theorem aiJ{cs:List T}:faV (.vp cs) off=if off≤cs.length then some (.vp (cs.drop off))else none:=rfl
theorem abV{sp:Sp}{o:Nat}:faV (.ptr sp k g o) off=some (.ptr sp k g (o+off)):=rfl
theorem abW{cs:List T}:Ry (.vp cs)=some (.vp cs):=rfl
theorem Wi{sp:Sp}{o:Nat}:Ry (.ptr sp k g o)=some (.ptr sp k g o):=rfl
theorem Wj{i:List T}:aa6 (.tup i) m=i[m]? :=rfl
theorem abX{l:List Nat}:O8 (.s l)=some (.i .i64 l.length):=rfl
theorem aiK{kk r:IntKind}{n:Int}:aa2 kk (.i r n)=some (.i kk (wr kk n)):=rfl
theorem tN{m k g i off len sz wm:Nat}{lh:iq b8}{sh:List b8}{cs:List T}:RA m lh sh k ⟨i,.cells cs wm false⟩ g off len sz=if i=g∧off+len*sz≤cs.length then some (.sl ((cs.drop off).take (len*sz)) len false,[(.L,k,⟨g,.cells cs cs.length false⟩)])else none:=rfl
theorem abY{k g r:Nat}{ks i:List T}{z:Bool}:mpV k ⟨r,.map ks i z⟩ g=if r=g then some (.vm ks i,[(.L,k,⟨g,.map ks i true⟩)])else none:=rfl
theorem D6{g i off len sz r bytes wm:Nat}{p:Nat×List T}{cs:List T}:RC lh k ⟨i,.cells cs wm false⟩ g off len sz r bytes p=if r=sz∧off=0∧(len+p.1)*bytes≤roomy∧i=g∧len*sz=cs.length then some (.isl .L k (g+1) 0 (len+p.1) sz,nN lh k ⟨g+1,.cells (cs++p.2) wm false⟩)else none:=rfl
theorem D7{d sz bytes n:Nat}{cs:List T}:M4 lh d sz bytes .nilsl (n+1,cs)=if(n+1)*bytes≤roomy then some (.isl .L d ((b7 lh d).g+1) 0 (n+1) sz,nN lh d ⟨(b7 lh d).g+1,.cells cs 0 false⟩)else none:=by
 unfold M4;rw[if_neg (Nat.succ_ne_zero n)]
theorem KC{d sz i bytes n g off len:Nat}{cs:List T}:M4 lh d sz bytes (.isl .L k g off len i) (n+1,cs)=RC lh k (b7 lh k) g off len sz i bytes (n+1,cs):=by
 unfold M4;rw[if_neg (Nat.succ_ne_zero n)]
end
theorem pO{α:Type}{f:α→List T}{sz:Nat}(i: ∀x,(f x).length=sz): ∀xs:List α,(xs.flatMap f).length=xs.length*sz
 | []=>by simp
 |x::xs=>by simp[List.flatMap_cons,i,pO i xs,Nat.succ_mul,Nat.add_comm]
theorem GC{α:Type}{f:α→List T}{sz:Nat}(i: ∀x,(f x).length=sz): ∀(xs:List α) (k:Nat) (hk:k<xs.length),(xs.flatMap f).drop (k*sz)=f xs[k]++(xs.drop (k+1)).flatMap f
 | [],k,hk=>by simp at hk
 |x::xs,0,hk=>by grind
 |x::xs,k+1,hk=>by
  have r:(k+1)*sz=(f x).length+k*sz:=by rw[i,Nat.succ_mul,Nat.add_comm]
  have D:List.drop ((f x).length+k*sz) (f x)= []:=List.drop_eq_nil_of_le (by omega)
  rw[List.flatMap_cons,r,List.drop_append,D,Nat.add_sub_cancel_left,GC i xs k (by simpa using hk)]
  rfl
def ints(xs:List Int):List T:=xs.map (T.i .i64)
theorem kO(xs:List Int):(ints xs).length=xs.length:=by simp[ints]
theorem oX(xs:List Int)(k:Nat)(hk:k<xs.length):(ints xs).drop k=T.i .i64 xs[k]::(ints xs).drop (k+1):=by
 rw[List.drop_eq_getElem_cons (by rw[kO];exact hk)];simp[ints]
def IsSl(v:T)(n:Nat)(cs:List T):Prop:=(v= .nilsl∧n=0∧cs= [])∨ ∃ex,v= .sl cs n ex
theorem IsSl.len{v:T}{n:Nat}{cs:List T}(h:IsSl v n cs):sF v=some n:=by
 rcases h with⟨rfl,rfl,_⟩|⟨ex,rfl⟩ <;> rfl
theorem IsSl.lenI{v:T}{n:Nat}{cs:List T}(h:IsSl v n cs):lenI v=some (.i .i64 (n:Int)):=abv h.len
theorem IsSl.froz1{v:T}{n:Nat}{cs:List T}(h:IsSl v n cs):froz1 v=true:=by
 rcases h with⟨rfl,_,_⟩|⟨ex,rfl⟩ <;> rfl
theorem IsSl.froz{v:T}{n:Nat}{cs:List T}(h:IsSl v n cs):froz v=true:=by
 rcases h with⟨rfl,_,_⟩|⟨ex,rfl⟩ <;> rfl
theorem IsSl.cells{v:T}{n:Nat}{cs:List T}(h:IsSl v n cs):cellsOf v= [v]:=by
 rcases h with⟨rfl,_,_⟩|⟨ex,rfl⟩ <;> rfl
theorem IsSl.noTup{v:T}{n:Nat}{cs:List T}(h:IsSl v n cs):noTup v=true:=by
 rcases h with⟨rfl,_,_⟩|⟨ex,rfl⟩ <;> rfl
theorem IsSl.ia{v:T}{n sz k:Nat}{cs:List T}{kk:IntKind}(h:IsSl v n cs)(hc:cs.length=n*sz)(hk:k<n):lY v (.i kk (k:Int)) sz=some (.vp (cs.drop (k*sz))):=by
 rcases h with⟨rfl,rfl,_⟩|⟨ex,rfl⟩
 ·omega
 grind [oq,Int.toNat_natCast,Nat.mul_le_mul_right]
theorem IsSl.slC{v:T}{n sz:Nat}{cs:List T}{lh:iq b8}{sh:List b8}(h:IsSl v n cs)(hc:cs.length=n*sz):slC lh sh sz v=some (n,cs):=by
 rcases h with⟨rfl,rfl,rfl⟩|⟨ex,rfl⟩
 ·rfl
 ·rw[M0,if_pos hc]
end Go.Ev
namespace Go.Ev
open Go
section
variable(E:Env)(n:Nat)(b:dE)(fr:Fr)(lh:iq b8)(sh:List b8)
noncomputable def tO:Fr:=match DC E n (.loop b) ⟨fr,lh,sh⟩with|some (_,st)=>st.fr|none=>fr
noncomputable def n5:iq b8:=match DC E n (.loop b) ⟨fr,lh,sh⟩with|some (_,st)=>st.lh|none=>lh
noncomputable def oH:List b8:=match DC E n (.loop b) ⟨fr,lh,sh⟩with|some (_,st)=>st.sh|none=>sh
end
section
variable{E:Env}{n:Nat}{b:dE}{fr:Fr}{lh:iq b8}{sh:List b8}{o:Out}
theorem Wk{s:Nat}(h:(j2 (.loop b)).contains s=false):an (tO E n b fr lh sh) s=an fr s:=by
 unfold tO
 cases i:DC E n (.loop b) ⟨fr,lh,sh⟩with
 |none=>rfl
 |some p=>obtain⟨o,st⟩:=p;exact lS i s h
def mj:List Nat→Nat
 | []=>0
 |s::i=>(1 <<< s) ||| mj i
theorem HQ(s:Nat): ∀l:List Nat,s∈l→(mj l).testBit s=true
 | [],h=>by simp at h
 |x::xs,h=>by
  rw[mj,Nat.testBit_or]
  rcases List.mem_cons.1 h with h|h
  ·grind
  ·rw[HQ s xs h];simp
theorem GD{s:Nat}(h:(mj (j2 (.loop b)) >>> s)%2=0):an (tO E n b fr lh sh) s=an fr s:=by
 refine Wk ?_
 cases hc:(j2 (.loop b)).contains s with
 |false=>rfl
 |true=>
  have i:=HQ s _ (List.contains_iff_mem.1 hc)
  grind [Nat.testBit]
theorem RO{P:Fr→iq b8→List b8→Prop}(h: ∃i r D,DC E n (.loop b) ⟨fr,lh,sh⟩=some (o,⟨i,r,D⟩)∧P i r D):
  DC E n (.loop b) ⟨fr,lh,sh⟩=some (o,⟨tO E n b fr lh sh,n5 E n b fr lh sh,oH E n b fr lh sh⟩)∧P (tO E n b fr lh sh) (n5 E n b fr lh sh) (oH E n b fr lh sh):=by
 grind [tO,n5,oH]
end
end Go.Ev
namespace Go.Ev
open Go
theorem KD(m:Nat)(F:m≤62)(a:Int):Ev.bin .and (.i .i64 a) (.i .i64 (2 ^ m-1))=some (.i .i64 (a%2 ^ m)):=by
 have r:(2:Int) ^ m=((2 ^ m:Nat):Int):=by norm_cast
 have N:0<2 ^ m:=Nat.two_pow_pos m
 have H:2 ^ m≤2 ^ 62:=Nat.pow_le_pow_right (by omega) F
 have Wl:(BitVec.ofInt 64 ((2:Int) ^ m-1)).toNat=2 ^ m-1:=by
  grind
 have D:(BitVec.ofInt 64 a &&& BitVec.ofInt 64 ((2:Int) ^ m-1)).toNat=(a%2 ^ m).toNat:=by
  rw[BitVec.toNat_and,Wl,Nat.and_two_pow_sub_one_eq_mod,BitVec.toNat_ofInt]
  have I:0≤a%((2 ^ 64:Nat):Int):=Int.emod_nonneg _ (by omega)
  have O:(a%((2 ^ 64:Nat):Int))%((2 ^ m:Nat):Int)=a%((2 ^ m:Nat):Int):=Int.emod_emod_of_dvd a (by
   have:(2 ^ m:Nat)∣2 ^ 64:=Nat.pow_dvd_pow 2 (by omega)
   exact Int.natCast_dvd_natCast.2 this)
  have U:(((a%((2 ^ 64:Nat):Int)).toNat%2 ^ m:Nat):Int)=a%((2 ^ m:Nat):Int):=by
   grind
  grind
 have V:(IntKind.i64).bits=64:=rfl
 simp only[Ev.bin,if_true,sE]
 have J:0≤a%2 ^ m:=by rw[r];exact Int.emod_nonneg _ (by omega)
 have K:a%2 ^ m<2 ^ m:=by rw[r];exact Int.emod_lt_of_pos _ (by omega)
 grind [IntKind.wrap]
section
variable{a:Int}
theorem and_3:Ev.bin .and (.i .i64 a) (.i .i64 3)=some (.i .i64 (a%4)):=KD 2 (by omega) a
theorem RP:Ev.bin .and (.i .i64 a) (.i .i64 65535)=some (.i .i64 (a%65536)):=KD 16 (by omega) a
theorem Ph{k k':IntKind}{b:Int}:Ev.bin .shr (.i k a) (.i k' b)=if b<0 then none else some (.i k (a.fdiv (2 ^ (min b.toNat k.bits)))):=by
 simp only[Ev.bin,Ds]
theorem zj{k':IntKind}{b:Nat}(h:b≤64):Ev.bin .shr (.i .i64 a) (.i k' (b:Int))=some (.i .i64 (a/2 ^ b)):=by
 rw[Ph,if_neg (by omega),Int.toNat_natCast]
 have:min b (IntKind.i64).bits=b:=Nat.min_eq_left h
 grind
theorem asE{k':IntKind}:Ev.bin .shr (.i .i64 a) (.i k' 3)=some (.i .i64 (a/8)):=zj (b:=3) (by omega)
theorem asF{k':IntKind}:Ev.bin .shr (.i .i64 a) (.i k' 4)=some (.i .i64 (a/16)):=zj (b:=4) (by omega)
theorem asG{k':IntKind}:Ev.bin .shr (.i .i64 a) (.i k' 8)=some (.i .i64 (a/256)):=zj (b:=8) (by omega)
end
theorem wR{n:Int}(h:0≤n∧n≤18446744073709551615):wr .u64 n=n:=by grind [wr,lo,hi]
theorem lr{a b:Int}(h:0≤a):a.tmod b=a%b:=Int.tmod_eq_emod_of_nonneg h
end Go.Ev
namespace Go.Ev
open Go
theorem D8(x:FP):apart x qp=true:=by
 obtain⟨a,r,w⟩:=x
 simp[apart,ml,qp,Mg]
theorem Nc(x:FP):apart qp x=true:=by
 obtain⟨a,r,w⟩:=x
 simp[apart,ml,qp,Mg]
theorem Wm{r i w w':List (Sp×Nat)}:apart ⟨false,r,w⟩ ⟨false,i,w'⟩=(ml w i&&ml w w'&&ml r w'):=by
 simp[apart]
theorem Nd{i:List (Sp×Nat)}:ml [] i=true:=rfl
theorem KE{x:Sp×Nat}{xs i:List (Sp×Nat)}:ml (x::xs) i=(!i.contains x&&ml xs i):=rfl
theorem abZ{x:Sp×Nat}:([]:List (Sp×Nat)).contains x=false:=rfl
theorem Wn{a c:Sp}{b d:Nat}{ys:List (Sp×Nat)}:((c,d)::ys).contains (a,b)=((decide (a=c)&&decide (b=d))||ys.contains (a,b)):=by
 rw[List.contains_cons]
 have:((a,b)==(c,d))=(decide (a=c)&&decide (b=d)):=by
  cases a <;> cases c <;> by_cases h:b=d <;> simp[h]
 rw[this]
def mI:mH→Bool
 | .mv _| .pick .. | .bin .. | .eq .. | .un .. | .cvi .. | .b2s _| .mkfn .. | .build .. | .slS .. | .fa .. | .fld .. | .ia .. | .iaA .. | .ixS .. | .ixA .. | .ext .. | .lenS _| .lenV _| .lenC _| .mm .. | .nck _=>true
 | .slV _ _ _ _ none=>true
 |_=>false
theorem ab0{x:iF}:mI (.mv x)=true:=nr rfl
theorem RQ{c a b:iF}:mI (.pick c a b)=true:=nr rfl
theorem Wo{o:BinOp}{x y:iF}:mI (.bin o x y)=true:=nr rfl
theorem ab1{o:UnOp}{x:iF}:mI (.un o x)=true:=nr rfl
theorem Wp{k:IntKind}{x:iF}:mI (.cvi k x)=true:=nr rfl
theorem pP{x:iF}:mI (.b2s x)=true:=nr rfl
theorem Nf{z:List T}{i:List (Nat×Nat×iF)}:mI (.build z i)=true:=nr rfl
theorem ab2{x:iF}{o:Nat}:mI (.fa x o)=true:=nr rfl
theorem ab3{x y:iF}{m:Nat}:mI (.ia x y m)=true:=nr rfl
theorem Wq{x y:iF}{m k:Nat}:mI (.iaA x y m k)=true:=nr rfl
theorem Wr{x:iF}{j:Nat}:mI (.ext x j)=true:=nr rfl
theorem RR{x:iF}:mI (.lenV x)=true:=nr rfl
theorem Ws{x:iF}:mI (.nck x)=true:=nr rfl
def Q.plain:Q Dq→Prop
 | .ret (.val _ i)=>i= []
 | .fail=>True
 | .rd _ _ _=>False
 | .new _=>False
theorem Q.plain_run{h:Sp→Nat→b8}{r:Nat}: ∀(q:Q Dq),q.plain→ ∀{v:T} {i:List Up},q.run h r=some (.val v i)→i= []∧q.asks h r=false∧q.log h r= []
 | .ret (.val _ _),hc,v,i,hr=>by simp[Q.run]at hr;obtain⟨rfl,rfl⟩:=hr;exact⟨hc,rfl,rfl⟩
 | .fail,hc,v,i,hr=>by simp[Q.run]at hr
 | .rd sp k f,hc,v,i,hr=>hc.elim
 | .new f,hc,v,i,hr=>hc.elim
theorem na{o:Option T}:(val o).plain:=by cases o <;> simp[val,Q.plain]
theorem Wt{d:Nat}{ρ:iF→T}{op:mH}(h:mI op=true):(jk d ρ op).plain∧jr ρ op=none:=by
 refine⟨?_,by cases op <;> first|rfl|(simp[mI]at h)⟩
 cases op with
 |mv x=>exact rfl
 |pick c a b=>simp only[jk];split <;> simp[Q.plain]
 |bin op x y=>exact na
 |eq neg k x y=>exact na
 |un op x=>exact na
 |cvi k x=>simp only[jk];split <;> simp[Q.plain]
 |b2s x=>simp only[jk];repeat' split
         all_goals trivial
 |mkfn f a c=>exact rfl
 |build z D=>
  simp only[jk]
  by_cases r:(D.all fun p=>decide ((cellsOf (ρ p.2.2)).length=p.2.1)&&noTup (ρ p.2.2))=true
  ·rw[if_pos r];exact na
  ·rw[if_neg r];trivial
 |slS x l h=>
  simp only[jk]
  split
  ·split
   ·split <;> simp[Q.plain]
   ·trivial
  ·trivial
 |fa x off=>
  simp only[jk]
  split
  ·split <;> simp[Q.plain]
  ·exact rfl
  ·trivial
 |fld x off m ag=>
  simp only[jk]
  split
  ·exact na
  ·trivial
 |ia x i sz=>
  simp only[jk]
  split
  ·split <;> simp[Q.plain]
  ·split <;> simp[Q.plain]
  ·trivial
 |iaA x i len sz=>
  simp only[jk]
  split
  ·split <;> simp[Q.plain]
  ·split <;> simp[Q.plain]
  ·trivial
 |ixS x i=>
  simp only[jk]
  split
  ·split <;> simp[Q.plain]
  ·trivial
 |ixA x i len sz ag=>
  simp only[jk]
  split
  ·split
   ·exact na
   ·trivial
  ·trivial
 |ext x j=>
  simp only[jk]
  split
  ·exact na
  ·trivial
 |lenS x=>simp only[jk];split <;> simp[Q.plain]
 |lenV x=>exact na
 |lenC m=>exact rfl
 |mm b as=>
  simp only[jk]
  split
  ·exact na
  ·trivial
 |nck x=>simp only[jk];split <;> simp[Q.plain]
 |slV sz x l h F=>
  cases F with
  |some m=>simp[mI]at h
  |none=>
   simp only[jk]
   split
   ·trivial
   ·split
    ·unfold Bt
     split
     ·split <;> simp[Q.bind,Q.plain]
     ·split <;> simp[Q.bind,Q.plain]
     ·split <;> simp[Q.bind,Q.plain]
     ·trivial
    ·rename_i H;exact absurd H (by simp)
    ·trivial
 |_=>simp[mI]at h
def ke(E:Env)(call:qa)(n:Nat)(ds:List (List Nat×dy))(jN:List FP)(x:Option St):Option St:=x.bind (iP E call n ds jN)
def meets(u:List Nat)(jN:List FP)(fp:FP):Bool:=u.all fun i=>apart (iE ⟨true,[],[]⟩ jN i) fp
section
variable{E:Env}{call:qa}{n:Nat}{fr:Fr}{lh:iq b8}{sh:List b8}{ds:List (List Nat×dy)}{jN:List FP}{u:List Nat}{d:Option Nat}
theorem ab4{st:St}:ke E call n ds jN (some st)=iP E call n ds jN st:=rfl
theorem ab5:ke E call n ds jN none=none:=rfl
theorem aiL{c:Prop}[Decidable c]{x y:Option St}:ke E call n ds jN (if c then x else y)=if c then ke E call n ds jN x else ke E call n ds jN y:=by split <;> rfl
theorem RS{fp:FP}:meets [] jN fp=true:=rfl
theorem Ng{i:Nat}{fp:FP}:meets (i::u) jN fp=(apart (iE ⟨true,[],[]⟩ jN i) fp&&meets u jN fp):=rfl
theorem zk:meets u jN qp=true:=by
 unfold meets
 rw[List.all_eq_true]
 intro i _
 exact D8 _
theorem RT{st:St}:DC E n (.draws ds) st=(iP E (be E) n ds [] st).map fun i=>(.nrm,i):=Ku
theorem uC{o:dy}{fp:FP}{st:St}(h:jd E call n o st≠none→jT E call o st=some fp):
  iP E call n ((u,o)::ds) jN st=if meets u jN fp=true then ke E call n ds (jN++ [fp]) (eb E call n [o] st)else none:=by
 simp only[iP]
 unfold meets ke
 cases i:jd E call n o st with
 |none=>
  have r:eb E call n [o] st=none:=by simp only[eb,i]
  rw[r]
  cases jT E call o st with
  |none=>simp
  |some D=>simp
 |some s=>
  have r:eb E call n [o] st=some s:=by simp only[eb,i]
  rw[r,h (by rw[i];simp)]
  rfl
theorem wx{op:mH}{st:St}{q:Q Dq}(F:jr st.rho op=none)(I:jk (d.getD 0) st.rho op=q)(D:jd E call n ⟨d,op,none⟩ st≠none):
  ∃v i,q.run st.get st.sh.length=some (.val v i)∧((q.asks st.get st.sh.length||inB st i)=true→jT E call ⟨d,op,none⟩ st=some ⟨q.asks st.get st.sh.length,q.log st.get st.sh.length,ki i⟩):=by
 subst I
 unfold jd at D
 simp only[F]at D
 cases H:(jk (d.getD 0) st.rho op).run st.get st.sh.length with
 |none=>simp only[H]at D;exact absurd rfl D
 |some r=>
  obtain⟨v,i⟩:=r
  refine⟨v,i,rfl,fun J=> ?_⟩
  unfold jT
  simp only[F,H]
  rw[if_pos J]
theorem aiM{op:mH}(F:mI op=true):iP E call n ((u,⟨d,op,none⟩)::ds) jN ⟨fr,lh,sh⟩=ke E call n ds (jN++ [qp]) (eb E call n [⟨d,op,none⟩] ⟨fr,lh,sh⟩):=by
 rw[uC (fp:=qp),zk,if_pos rfl]
 intro i
 obtain⟨H,I⟩:=Wt (d:=d.getD 0) (ρ:=(St.mk fr lh sh).rho) F
 unfold jd at i
 unfold jT
 simp only[I]at i ⊢
 cases D:(jk (d.getD 0) (St.mk fr lh sh).rho op).run (St.mk fr lh sh).get sh.length with
 |none=>simp only[D]at i;exact absurd rfl i
 |some r=>
  obtain⟨v,J⟩:=r
  obtain⟨rfl,K,N⟩:=Q.plain_run _ H D
  simp only[K,N,inB,List.all_nil,Bool.or_true,if_true,ki,List.map_nil]
  rfl
def rO:T→List (Sp×Nat)
 | .ptr sp k _ _=> [(sp,k)]
 |_=> []
theorem Wu{cs:List T}:rO (.vp cs)= []:=rfl
theorem RU{sp:Sp}{k g off:Nat}:rO (.ptr sp k g off)= [(sp,k)]:=rfl
theorem Q.log_bind{α β:Type}{h:Sp→Nat→b8}{i:Nat}{f:α→Q β}(r: ∀a,(f a).log h i= []): ∀q:Q α,(q.bind f).log h i=q.log h i
 | .ret a=>r a
 | .fail=>rfl
 | .rd sp k g=>by show(sp,k)::((g (h sp k)).bind f).log h i=(sp,k)::(g (h sp k)).log h i;rw[Q.log_bind r (g (h sp k))]
 | .new g=>Q.log_bind r (g i)
theorem azk{x:iF}{m:Nat}{ag:Bool}:iP E call n ((u,⟨d,.ld x m ag,none⟩)::ds) jN ⟨fr,lh,sh⟩=
  if meets u jN ⟨false,rO (rd fr x),[]⟩=true then ke E call n ds (jN++ [⟨false,rO (rd fr x),[]⟩]) (eb E call n [⟨d,.ld x m ag,none⟩] ⟨fr,lh,sh⟩)else none:=by
 refine uC ?_
 intro i
 obtain⟨H,I⟩:=HL (d:=d.getD 0) (ρ:=(St.mk fr lh sh).rho) (op:= .ld x m ag) rfl
 unfold jd at i
 unfold jT
 simp only[I]at i ⊢
 cases F:(jk (d.getD 0) (St.mk fr lh sh).rho (.ld x m ag)).run (St.mk fr lh sh).get sh.length with
 |none=>simp only[F]at i;exact absurd rfl i
 |some r=>
  obtain⟨v,J⟩:=r
  obtain⟨rfl,K⟩:=Q.calm_run _ H F
  have N:(jk (d.getD 0) (St.mk fr lh sh).rho (.ld x m ag)).log (St.mk fr lh sh).get sh.length=rO (rd fr x):=by
   rw[lp]
   simp only[jk]
   rw[Q.log_bind (fun a=>rfl)]
   unfold Hj rO
   cases hx:rd fr x <;> try rfl
   ·simp only[];generalize Ev.part _ _ _ _=o;cases o <;> rfl
   ·rename_i sp k g off
    simp only[Q.log]
    congr 1
    generalize (St.mk fr lh sh).get sp k=e
    obtain⟨O,ob⟩:=e
    by_cases D:O=g
    ·cases ob with
     |cells cs wm bx=>simp only[D,if_true];generalize Ev.part _ _ _ _=o;cases o <;> rfl
     |_=>simp only[D,if_true];rfl
    ·simp only[D,if_false];rfl
  simp only[K,N,inB,List.all_nil,Bool.or_true,if_true,ki,List.map_nil]
theorem GF{keep:Bool}{m:Nat}{h:Sp→Nat→b8}{r:Nat}: ∀(ts:List T),ts.all froz=true→(ja (fz keep (m+2)) ts).log h r= []
 | [],_=>rfl
 |t::ts,i=>by
  simp only[List.all_cons,Bool.and_eq_true]at i
  simp only[ja,px i.1,Q.bind]
  rw[Q.log_bind (fun a=>rfl),GF ts i.2]
theorem ag5{f:Nat}{af:ib}{as:List iF}(F:E.fn f=some af)(H:af.eff=false)(I:af.own=none)(D:(as.map (rd fr)).all froz=true):
  iP E call n ((u,⟨d,.callf f as,none⟩)::ds) jN ⟨fr,lh,sh⟩=ke E call n ds (jN++ [qp]) (eb E call n [⟨d,.callf f as,none⟩] ⟨fr,lh,sh⟩):=by
 rw[uC (fp:=qp),zk,if_pos rfl]
 intro i
 unfold jd at i
 unfold jT
 have J:jr (St.mk fr lh sh).rho (.callf f as)=some (some (f,as.map (rd fr))):=by rw[lp];rfl
 simp only[J]at i ⊢
 rw[JR F H I D]at i
 unfold lV
 have K:(ja (fz af.eff iG) (as.map (rd fr))).run (St.mk fr lh sh).get sh.length=some (as.map (rd fr),[]):=by
  have:=zg (lh:=lh) (sh:=sh) (keep:=af.eff) D
  unfold Cl at this
  rw[qW];exact this
 simp only[F]
 rw[K]
 simp only[inB,List.all_nil,Bool.not_true,Bool.false_eq_true,if_false,H,I]
 cases hc:call f (as.map (rd fr)) []with
 |none=>rw[hc]at i;exact absurd rfl i
 |some r=>
  simp only[ki,List.map_nil,ite_self]
  have:(ja (fz false iG) (as.map (rd fr))).log (St.mk fr lh sh).get sh.length= []:=GF _ D
  rw[this];rfl
theorem asH{z:List T}{len:Nat}{i:List (Nat×iF)}(F:(i.map fun p=>rd fr p.2).all froz=true):
  iP E call n ((u,⟨d,.bsl z len i,none⟩)::ds) jN ⟨fr,lh,sh⟩=ke E call n ds (jN++ [qp]) (eb E call n [⟨d,.bsl z len i,none⟩] ⟨fr,lh,sh⟩):=by
 rw[uC (fp:=qp),zk,if_pos rfl]
 intro H
 have I:ja (fz false iG) (i.map fun p=>rd fr p.2)= .ret (i.map (fun p=>rd fr p.2),[]):=by
  have: ∀(ts:List T),ts.all froz=true→ja (fz false iG) ts= .ret (ts,[]):=by
   intro ts
   induction ts with
   |nil=>intro _;rfl
   |cons t ts ih=>
    intro r
    simp only[List.all_cons,Bool.and_eq_true]at r
    rw[ja,ih r.2]
    unfold iG
    rw[px r.1];rfl
  exact this _ F
 obtain⟨v,J,hr,D⟩:=wx (q:=if((i.map fun p=>rd fr p.2).all fun v=>decide ((cellsOf v).length=z.length)&&noTup v)=true then(match qh (repl z len) ((i.map fun p=>p.1*z.length).zip ((i.map fun p=>rd fr p.2).map cellsOf))with|some cs=>Q.ret (.val (.sl cs len true) [])|none=> .fail)else .fail) (by rfl) (by rw[lp];simp only[jk];rw[I];rfl) H
 split at hr
 ·split at hr
  ·simp[Q.run]at hr
   obtain⟨rfl,rfl⟩:=hr
   rename_i K _ _ N
   rw[if_pos K,N]at D
   exact D rfl
  ·simp[Q.run]at hr
 ·simp[Q.run]at hr
theorem ab6{i:Nat}{z:List T}:iP E call n ((u,⟨some i,.alloc z false,none⟩)::ds) jN ⟨fr,lh,sh⟩=
  if meets u jN ⟨false,[(.L,i)],[(.L,i)]⟩=true then ke E call n ds (jN++ [⟨false,[(.L,i)],[(.L,i)]⟩]) (eb E call n [⟨some i,.alloc z false,none⟩] ⟨fr,lh,sh⟩)else none:=
 uC fun _=>rfl
theorem aiN{i:Nat}{z:List T}{bytes:Nat}{x:iF}:iP E call n ((u,⟨some i,.mksl z bytes x false,none⟩)::ds) jN ⟨fr,lh,sh⟩=
  if meets u jN ⟨false,[(.L,i)],[(.L,i)]⟩=true then ke E call n ds (jN++ [⟨false,[(.L,i)],[(.L,i)]⟩]) (eb E call n [⟨some i,.mksl z bytes x false,none⟩] ⟨fr,lh,sh⟩)else none:=by
 refine uC fun F=> ?_
 cases H:asNat (rd fr x)with
 |none=>
  obtain⟨v,r,hr,D⟩:=wx (q:= .fail) (by rfl) (by rw[lp];simp only[jk,H]) F
  simp[Q.run]at hr
 |some k=>
  obtain⟨v,r,hr,D⟩:=wx (q:=if k*bytes≤roomy&&k≤roomy then oc i false (.cells (repl z k) 0 (U4 z)) (fun sp k' g=> .isl sp k' g 0 k z.length)else .fail) (by rfl) (by rw[lp];simp only[jk,H];rfl) F
  split at hr
  ·rename_i I
   rw[if_pos I]at D
   simp[oc,Q.run]at hr
   obtain⟨rfl,rfl⟩:=hr
   exact D rfl
  ·simp[Q.run]at hr
def ab7:T→Bool
 | .ptr .L .. =>true
 |_=>false
theorem Wv{k g off:Nat}:ab7 (.ptr .L k g off)=true:=nr rfl
theorem azl{x v:iF}{m:Nat}(hx:ab7 (rd fr x)=true)(I:froz (rd fr v)=true):iP E call n ((u,⟨none,.st x v m,none⟩)::ds) jN ⟨fr,lh,sh⟩=
  if meets u jN ⟨false,rO (rd fr x),rO (rd fr x)⟩=true then ke E call n ds (jN++ [⟨false,rO (rd fr x),rO (rd fr x)⟩]) (eb E call n [⟨none,.st x v m,none⟩] ⟨fr,lh,sh⟩)else none:=by
 refine uC fun F=> ?_
 cases AU:rd fr x with
 |ptr sp k g off=>
  cases sp with
  |S=>rw[AU]at hx;simp[ab7]at hx
  |L=>
   by_cases H:(decide ((cellsOf (rd fr v)).length≠m)|| !noTup (rd fr v))=true
   ·obtain⟨w,D,hr,i⟩:=wx (q:= .fail) (by rfl) (by rw[lp];simp only[jk,sd,AU];rw[if_pos H]) F
    simp[Q.run]at hr
   ·obtain⟨w,D,hr,i⟩:=wx (q:= .rd .L k (abc k g off m (rd fr v))) (by rfl) (by rw[lp];simp only[jk,sd,AU];rw[if_neg H];rfl) F
    simp only[Q.run,Q.log,Q.asks,O6]at hr i
    generalize b7 lh k=e at hr i
    obtain⟨J,ob⟩:=e
    unfold abc at hr i
    by_cases r:J=g
    ·cases ob with
     |none=>simp[r,Q.run]at hr
     |map ks N z=>simp[r,Q.run]at hr
     |cells cs wm bx=>
      simp only[r,if_true]at hr i
      split at hr
      ·rename_i hc
       rw[if_pos hc]at i
       cases bx with
       |true=>
        simp[Q.run]at hr
        obtain⟨rfl,rfl⟩:=hr
        exact i rfl
       |false=>
        unfold iG at hr i
        simp only[Bool.false_and,Bool.false_eq_true,if_false]at hr i
        rw[px I]at hr i
        simp only[Q.bind]at hr i
        split at hr
        ·simp[Q.run]at hr
        ·rename_i K
         rw[if_neg K]at i
         simp[Q.run]at hr
         obtain⟨rfl,rfl⟩:=hr
         exact i rfl
      ·simp[Q.run]at hr
    ·simp only[r,if_false,Q.run]at hr
     cases hr
 |_=>rw[AU]at hx;simp[ab7]at hx
theorem ab8{op:mH}{j:Nat}{w:Bool}(h:an fr j= .b w):iP E call n ((u,⟨d,op,some (j,w)⟩)::ds) jN ⟨fr,lh,sh⟩=iP E call n ((u,⟨d,op,none⟩)::ds) jN ⟨fr,lh,sh⟩:=by
 simp only[iP,jT,jd,h,if_true]
theorem Ww{op:mH}{j:Nat}(h:an fr j= .b true):iP E call n ((u,⟨d,op,some (j,true)⟩)::ds) jN ⟨fr,lh,sh⟩=iP E call n ((u,⟨d,op,none⟩)::ds) jN ⟨fr,lh,sh⟩:=ab8 h
theorem ab9{op:mH}{j:Nat}{w:Bool}(i:Fe n d)(h:an fr j= .b (!w)∨an fr j=iW):iP E call n ((u,⟨d,op,some (j,w)⟩)::ds) jN ⟨fr,lh,sh⟩=iP E call n ds (jN++ [qp]) ⟨wv fr d iW,lh,sh⟩:=by
 have r:jT E call ⟨d,op,some (j,w)⟩ ⟨fr,lh,sh⟩=some qp:=by
  unfold jT
  rcases h with h|h
  ·simp only[h];rw[if_neg (by cases w <;> simp)]
  ·simp only[h,iW]
 rw[uC (fp:=qp) (fun _=>r),zk,if_pos rfl]
 rcases h with h|h
 ·rw[M5 i h];rfl
 ·rw[Pa i h];rfl
theorem Wx{i:Nat}{op:mH}{j:Nat}(r:i<n)(h:an fr j= .b false):iP E call n ((u,⟨some i,op,some (j,true)⟩)::ds) jN ⟨fr,lh,sh⟩=iP E call n ds (jN++ [qp]) ⟨kg fr i iW,lh,sh⟩:=ab9 (d:=some i) r (Or.inl h)
end
end Go.Ev
namespace Go.Ev
open Go
def fzW(m:Nat)(lh:iq b8)(sh:List b8)(keep:Bool)(v:T):Option (T×List Up):=(fz keep (m+1) v).run (St.mk .nil lh sh).get sh.length
def xx(m:Nat)(lh:iq b8)(sh:List b8)(keep:Bool)(i:List T):Option (List T×List Up):=(ja (fz keep (m+1)) i).run (St.mk .nil lh sh).get sh.length
section
variable{m:Nat}{lh:iq b8}{sh:List b8}{keep:Bool}
theorem AV{v:T}(h:froz1 v=true):fzW m lh sh keep v=some (v,[]):=by unfold fzW;rw[pM h];rfl
theorem HR{k g off len sz:Nat}:fzW m lh sh keep (.isl .L k g off len sz)=RA m lh sh k (b7 lh k) g off len sz:=by
 cases keep <;> exact asd (b7 lh k)
theorem aiO{k g:Nat}:fzW m lh sh keep (.mp .L k g)=mpV k (b7 lh k) g:=by
 cases keep <;> exact mpQ (b7 lh k)
theorem Wy:xx m lh sh keep []=some ([],[]):=rfl
theorem RV{v:T}{i:List T}:xx m lh sh keep (v::i)=(fzW m lh sh keep v).bind fun p=>(xx m lh sh keep i).bind fun q=>some (p.1::q.1,p.2++q.2):=by
 unfold xx fzW
 rw[ja,jh]
 congr 1
 funext p
 rw[jh]
 rfl
theorem D9{i:List T}(h:i.all froz1=true):xx m lh sh keep i=some (i,[]):=by
 unfold xx;rw[nO i h];rfl
theorem Wz{cs:List T}:fzV lh sh keep (.agg cs)=(xx 6 lh sh keep cs).map fun q=>(.agg q.1,q.2):=aba
theorem WA{cs:List T}:fzV lh sh keep (.tup cs)=(xx 6 lh sh keep cs).map fun q=>(.tup q.1,q.2):=abb
theorem WB{cs:List T}:fzW (m+1) lh sh keep (.agg cs)=(xx m lh sh keep cs).map fun q=>(.agg q.1,q.2):=by
 unfold fzW xx
 rw[HI,jh]
 cases (ja (fz keep (m+1)) cs).run (St.mk .nil lh sh).get sh.length <;> rfl
theorem WC{i:Bool}{v:T}:RG lh sh i [v]=(fzV lh sh i v).map fun p=>(p.1,((St.mk .nil lh sh).ups p.2).sh):=rfl
theorem RW{i:Bool}{v u:T}{r:List T}:RG lh sh i (v::u::r)=(fzV lh sh i (.tup (v::u::r))).map fun p=>(p.1,((St.mk .nil lh sh).ups p.2).sh):=rfl
end
theorem asI{x y:List Nat}:uP (.one .str) (.s x) (.s y)=some (decide (x=y)):=by
 simp only[uP,lO,Bool.beq_eq_decide_eq]
theorem asJ{k:IntKind}{x y:Int}:uP (.one .int) (.i k x) (.i k y)=some (decide (x=y)):=by
 simp_all[uP,lO,Bool.beq_eq_decide_eq]
theorem aiP{k:IntKind}{x y:Int}{s t:List Nat}:uP (.flat [.int,.str]) (.agg [.i k x,.s s]) (.agg [.i k y,.s t])=some (decide (x=y∧s=t)):=by
 simp only[uP,jK,lO,if_true,Bool.beq_eq_decide_eq]
 grind
theorem BN{x:List Nat}:isKey (.one .str) (.s x)=true:=nr rfl
theorem afS{k:IntKind}{x:Int}:isKey (.one .int) (.i k x)=true:=nr rfl
theorem WD{k:IntKind}{x:Int}{s:List Nat}:isKey (.flat [.int,.str]) (.agg [.i k x,.s s])=true:=nr rfl
def asK(r:Option Bool)(i:Option (Option Nat)):Option (Option Nat):=
 match r with
 |some true=>some (some 0)
 |some false=>i.map fun r=>r.map (· +1)
 |none=>none
theorem RX{kk:EK}{k x:T}{xs:List T}:ni kk k (x::xs)=asK (uP kk k x) (ni kk k xs):=rfl
def lkF(F:List T)(z:T)(D:Bool)(r:Option (Option Nat)):Option T:=
 match r with
 |some (some i)=>F[i]?.map fun v=>if D=true then .tup [v,.b true]else v
 |some none=>some (if D=true then .tup [z,.b false]else z)
 |none=>none
theorem Pj{kk:EK}{ks i:List T}{k z:T}{r:Bool}(h:isKey kk k=true):nI kk ks i k z r=lkF i z r (ni kk k ks):=by
 grind [nI,lkF]
theorem KF{r:List T}{z:T}{D:Bool}{i:Nat}:lkF r z D (some (some i))=r[i]?.map fun v=>if D=true then .tup [v,.b true]else v:=rfl
def aiQ(ks D:List T)(k v:T)(r:Option (Option Nat)):Option (List T×List T):=
 match r with
 |some (some i)=>some (ks.set i k,D.set i v)
 |some none=>some (ks++ [k],D++ [v])
 |none=>none
theorem aca{kk:EK}{ks i:List T}{k v:T}:qN kk k v ks i=aiQ ks i k v (ni kk k ks):=by
 grind [qN,aiQ]
theorem RY{ks i:List T}{k v:T}:aiQ ks i k v (some none)=some (ks++ [k],i++ [v]):=rfl
theorem jF{g i:Nat}{ks r:List T}{z:Bool}{ek:EK}{k u:T}{D:Bool}:lkE ⟨i,.map ks r z⟩ g ek k u D=if i=g then nI ek ks r k u D else none:=rfl
theorem tP{lh:iq b8}{kk g i:Nat}{ks r:List T}{ek:EK}{k v:T}:muE lh kk ⟨i,.map ks r false⟩ g ek k v=if i=g∧isKey ek k=true then(qN ek k v ks r).map fun q=>nN lh kk ⟨g,.map q.1 q.2 false⟩else none:=rfl
end Go.Ev
namespace Go.Ev
open Go
section
variable{E:Env}{call:qa}{n:Nat}{fr:Fr}{lh:iq b8}{sh:List b8}{os:List dy}{d:Nat}
theorem WE{z:List T}(i:d<n):eb E call n (⟨some d,.alloc z true,none⟩::os) ⟨fr,lh,sh⟩=eb E call n os ⟨kg fr d (.ptr .S sh.length 1 0),lh,iH sh sh.length ⟨1,.cells z 0 true⟩⟩:=by
 rw[pL (by rfl) (show Fe n (some d)from i)];rfl
theorem WG(i:d<n):eb E call n (⟨some d,.mkmap true,none⟩::os) ⟨fr,lh,sh⟩=eb E call n os ⟨kg fr d (.mp .S sh.length 1),lh,iH sh sh.length ⟨1,.map [] [] false⟩⟩:=by
 rw[pL (by rfl) (show Fe n (some d)from i)];rfl
theorem RZ{e:b8}{l:List b8}:iz (e::l) 0=e:=rfl
theorem sS{e:b8}{l:List b8}{k:Nat}:iz (e::l) (k+1)=iz l k:=rfl
theorem WH{v:b8}:iH [] 0 v= [v]:=rfl
theorem R5{e v:b8}{l:List b8}:iH (e::l) 0 v=v::l:=rfl
theorem sU{e v:b8}{l:List b8}{k:Nat}:iH (e::l) (k+1) v=e::iH l k v:=rfl
def Ea(lh:iq b8)(sh:List b8)(k:Nat)(e:b8)(g off:Nat)(v:T)(m:Nat):Option (iq b8×List b8):=
 match e with
 |⟨i,.cells cs wm bx⟩=>if i=g∧(cellsOf v).length=m∧noTup v=true∧wm≤off∧off+m≤cs.length then some (lh,iH sh k ⟨g,.cells (splice cs off (cellsOf v)) wm bx⟩)else none
 |_=>none
def KG(k g off m:Nat)(v:T)(e:b8):Q Dq:=if e.g=g then match e.ob with
     | .cells cs wm bx=>if wm≤off&&off+m≤cs.length then
         (if bx&&Sp.S== .L then .ret (.val iW [(Sp.S,k,⟨g,.cells (splice cs off (cellsOf v)) wm bx⟩)])
         else(fz (bx&&Sp.S== .S) iG v).bind fun p=>if oS p.2 .S k|| !noTup p.1||(cellsOf p.1).length≠m then .fail else .ret (.val iW (p.2++ [(Sp.S,k,⟨g,.cells (splice cs off (cellsOf p.1)) wm bx⟩)])))
       else .fail
     |_=> .fail
    else .fail
theorem acb{k g off m:Nat}{v:T}(e:b8)(D:(cellsOf v).length=m)(F:noTup v=true)(H:froz v=true):ny lh sh (Q.run (St.mk .nil lh sh).get sh.length (KG k g off m v e))=Ea lh sh k e g off v m:=by
 obtain⟨I,ob⟩:=e
 unfold Ea KG
 by_cases J:I=g
 ·subst J
  cases ob with
  |none=>simp[Q.run,ny]
  |map ks N z=>simp[Q.run,ny]
  |cells cs wm bx=>
   by_cases i:wm≤off∧off+m≤cs.length
   ·have r:(decide (wm≤off)&&decide (off+m≤cs.length))=true:=by simp[i.1,i.2]
    have MG:(bx&&Sp.S==Sp.L)=false:=by cases bx <;> rfl
    unfold iG
    simp only[if_true,r,MG,Bool.false_eq_true,if_false]
    rw[px H]
    have K:(oS [] Sp.S k|| !noTup v||decide ((cellsOf v).length≠m))=false:=by simp[oS,D,F]
    simp only[Q.bind,K,Bool.false_eq_true,if_false,Q.run,ny]
    rw[if_pos ⟨trivial,D,F,i⟩]
    rfl
   grind [Bool.false_eq_true,Q.run,ny]
 grind [Q.run,ny]
theorem asL{k g off m:Nat}{v:T}(D:froz v=true):stV lh sh (.ptr .S k g off) v m=Ea lh sh k (iz sh k) g off v m:=by
 by_cases i:(cellsOf v).length=m
 ·cases r:noTup v with
  |false=>
   unfold stV sd
   have:(decide ((cellsOf v).length≠m)|| !noTup v)=true:=by simp[r]
   simp only[this,if_true,Q.run]
   unfold Ea
   grind
  |true=>
   unfold stV sd
   have:(decide ((cellsOf v).length≠m)|| !noTup v)=false:=by simp[i,r]
   simp only[this,Bool.false_eq_true,if_false]
   exact acb (iz sh k) i r D
 ·unfold stV sd
  have:(decide ((cellsOf v).length≠m)|| !noTup v)=true:=by simp[i]
  simp only[this,if_true,Q.run]
  unfold Ea
  grind
theorem kU{k g i off m wm:Nat}{cs:List T}{bx:Bool}{v:T}:Ea lh sh k ⟨i,.cells cs wm bx⟩ g off v m=if i=g∧(cellsOf v).length=m∧noTup v=true∧wm≤off∧off+m≤cs.length then some (lh,iH sh k ⟨g,.cells (splice cs off (cellsOf v)) wm bx⟩)else none:=rfl
end
section
variable{E:Env}{call:qa}{n:Nat}{fr:Fr}{lh:iq b8}{sh:List b8}{ds:List (List Nat×dy)}{jN:List FP}{u:List Nat}{d:Option Nat}
def sV:T→List (Sp×Nat)
 | .mp sp k _=> [(sp,k)]
 |_=> []
theorem WI{sp:Sp}{k g:Nat}:sV (.mp sp k g)= [(sp,k)]:=rfl
theorem acd{h:Sp→Nat→b8}{i:Nat}{o:Option T}:(val o).log h i= []:=by cases o <;> rfl
theorem azn{ek:EK}{m k:iF}{z:T}{i:Bool}:iP E call n ((u,⟨d,.lk ek m k z i,none⟩)::ds) jN ⟨fr,lh,sh⟩=
  if meets u jN ⟨false,sV (rd fr m),[]⟩=true then ke E call n ds (jN++ [⟨false,sV (rd fr m),[]⟩]) (eb E call n [⟨d,.lk ek m k z i,none⟩] ⟨fr,lh,sh⟩)else none:=by
 refine uC fun D=> ?_
 obtain⟨F,H⟩:=HL (d:=d.getD 0) (ρ:=(St.mk fr lh sh).rho) (op:= .lk ek m k z i) rfl
 obtain⟨v,I,hr,J⟩:=wx H rfl D
 obtain⟨rfl,r⟩:=Q.calm_run _ F hr
 have K:(jk (d.getD 0) (St.mk fr lh sh).rho (.lk ek m k z i)).log (St.mk fr lh sh).get sh.length=sV (rd fr m):=by
  rw[lp]
  grind [sV,jk,Q.log,acd]
 have:=J (by rw[r];simp[inB])
 rw[this,r,K];rfl
def ace:T→Bool
 | .mp .L .. =>true
 |_=>false
theorem acf{k g:Nat}:ace (.mp .L k g)=true:=nr rfl
theorem azo{ek:EK}{m k v:iF}(hx:ace (rd fr m)=true)(r:froz (rd fr v)=true):iP E call n ((u,⟨none,.mu ek m k v,none⟩)::ds) jN ⟨fr,lh,sh⟩=
  if meets u jN ⟨false,sV (rd fr m),sV (rd fr m)⟩=true then ke E call n ds (jN++ [⟨false,sV (rd fr m),sV (rd fr m)⟩]) (eb E call n [⟨none,.mu ek m k v,none⟩] ⟨fr,lh,sh⟩)else none:=by
 refine uC fun D=> ?_
 cases AU:rd fr m with
 |mp sp kk g=>
  cases sp with
  |S=>grind [ace]
  |L=>
   obtain⟨w,F,hr,i⟩:=wx (q:= .rd .L kk (abg kk g ek (rd fr k) (rd fr v))) (by rfl) (by rw[lp];simp only[jk,AU];rfl) D
   simp only[Q.run,Q.log,Q.asks,O6]at hr i
   generalize b7 lh kk=e at hr i
   obtain⟨H,ob⟩:=e
   unfold abg at hr i
   by_cases I:(decide (H=g)&&isKey ek (rd fr k))=true
   ·simp only[I,if_true]at hr i
    cases ob with
    |none=>simp[Q.run]at hr
    |cells cs wm bx=>simp[Q.run]at hr
    |map ks N J=>
     cases J with
     |true=>simp[Q.run]at hr
     |false=>
      simp only[]at hr i
      unfold iG at hr i
      rw[px r]at hr i
      simp only[Q.bind]at hr i
      split at hr
      ·rename_i q K
       simp only[oS,List.any_nil,Bool.false_eq_true,if_false,Q.run,Option.some.injEq,Dq.val.injEq]at hr
       obtain⟨rfl,rfl⟩:=hr
       rw[K]at i
       simp only[oS,List.any_nil,Bool.false_eq_true,if_false]at i
       exact i rfl
      ·simp[Q.run]at hr
   grind [Bool.false_eq_true,Q.run]
 |_=>grind [ace]
end
section
variable{E:Env}{call:qa}{n:Nat}{fr:Fr}{lh:iq b8}{sh:List b8}{ds:List (List Nat×dy)}{jN:List FP}{d:Option Nat}
theorem acg{r:Bool}{D sz bytes:Nat}{s x:T}{v:T}{i:List Up}{st:St}(hs:notS s=true)(h:(qM D sz bytes s x false r).run st.get st.sh.length=some (.val v i)):inB st i=true:=by
 unfold qM at h
 rw[jh]at h
 cases hx:(jL sz x).run st.get st.sh.length with
 |none=>grind
 |some p=>
  rw[hx]at h
  simp only[Option.bind_some]at h
  split at h
  ·split at h
   ·simp[Q.run]at h;rw[h.2];rfl
   ·simp[Q.run]at h;rw[h.2];rfl
   ·simp[Q.run]at h;rw[h.2];rfl
   ·simp[Q.run]at h
  ·split at h
   ·split at h
    ·simp[oc,Q.run]at h;rw[←h.2];rfl
    ·simp[Q.run]at h
   ·split at h
    ·simp[oc,Q.run]at h;rw[←h.2];rfl
    ·simp[Q.run]at h
   ·rename_i sp k g off len F
    cases sp with
    |S=>simp[notS]at hs
    |L=>
     split at h
     ·simp only[Q.run]at h
      split at h
      ·split at h
       ·split at h
        ·simp[Q.run]at h;rw[←h.2];rfl
        ·simp[Q.run]at h
       ·simp[Q.run]at h
      ·simp[Q.run]at h
     ·simp[Q.run]at h
   ·simp[Q.run]at h
end
end Go.Ev
