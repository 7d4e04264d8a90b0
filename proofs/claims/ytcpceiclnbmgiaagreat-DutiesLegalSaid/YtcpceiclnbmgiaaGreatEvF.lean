/- A tree evaluator over the model, proved against it (part F): where it answers, the call returns that answer. Conditions: none beyond its theorems' own. -/
import Derived.Test.YtcpceiclnbmgiaaGreatEvE
set_option linter.unusedSimpArgs false
set_option linter.unusedVariables false
namespace Go.Ev
open Go
theorem aib{x:Bool}:froz (.b x)=true:=nr rfl
theorem aic{k:IntKind}{n:Int}:froz (.i k n)=true:=nr rfl
theorem aid{l:List Nat}:froz (.s l)=true:=nr rfl
theorem MH:froz .nilsl=true:=nr rfl
theorem abw{cs:List T}{n:Nat}{e:Bool}:froz (.sl cs n e)=true:=nr rfl
theorem abx{cs:List T}:froz (.vp cs)=true:=nr rfl
theorem Kl{cs:List T}:froz (.agg cs)=cs.all froz1:=nr rfl
theorem VE{cs:List T}:froz (.tup cs)=cs.all froz1:=nr rfl
theorem aby{f:Nat}{a c:List T}:froz (.fn f a c)=(a.all froz1&&c.all froz1):=nr rfl
theorem abz{x:Bool}:froz1 (.b x)=true:=nr rfl
theorem yX{k:IntKind}{n:Int}:froz1 (.i k n)=true:=nr rfl
theorem HE{l:List Nat}:froz1 (.s l)=true:=nr rfl
theorem Km:froz1 .nilsl=true:=nr rfl
theorem VF{cs:List T}{n:Nat}{e:Bool}:froz1 (.sl cs n e)=true:=nr rfl
theorem HF:froz1 .nilptr=true:=nr rfl
theorem Rr{cs:List T}:cellsOf (.agg cs)=cs:=nr rfl
theorem abA{x:Bool}:cellsOf (.b x)= [.b x]:=nr rfl
theorem abB{k:IntKind}{n:Int}:cellsOf (.i k n)= [.i k n]:=nr rfl
theorem abC{l:List Nat}:cellsOf (.s l)= [.s l]:=nr rfl
theorem VG{cs:List T}{n:Nat}{e:Bool}:cellsOf (.sl cs n e)= [.sl cs n e]:=nr rfl
theorem Rs{sp:Sp}{a b c d e:Nat}:cellsOf (.isl sp a b c d e)= [.isl sp a b c d e]:=nr rfl
theorem VH{cs:List T}:cellsOf (.vp cs)= [.vp cs]:=nr rfl
theorem VI{sp:Sp}{a b:Nat}:cellsOf (.mp sp a b)= [.mp sp a b]:=nr rfl
theorem Rt{cs:List T}:noTup (.agg cs)=true:=nr rfl
theorem abD{x:Bool}:noTup (.b x)=true:=nr rfl
theorem abE{k:IntKind}{n:Int}:noTup (.i k n)=true:=nr rfl
theorem abF{l:List Nat}:noTup (.s l)=true:=nr rfl
theorem VJ{cs:List T}{n:Nat}{e:Bool}:noTup (.sl cs n e)=true:=nr rfl
theorem Rv{sp:Sp}{a b c d e:Nat}:noTup (.isl sp a b c d e)=true:=nr rfl
theorem VK{cs:List T}:noTup (.vp cs)=true:=nr rfl
theorem VL{sp:Sp}{a b:Nat}:noTup (.mp sp a b)=true:=nr rfl
theorem MI:notS .nilsl=true:=nr rfl
theorem VM{a b c d e:Nat}:notS (.isl .L a b c d e)=true:=nr rfl
theorem abG{a b:Nat}:notS (.mp .L a b)=true:=nr rfl
theorem VN:lenI .nilsl=some (.i .i64 0):=nr rfl
theorem abH{cs:List T}{n:Nat}{e:Bool}:lenI (.sl cs n e)=some (.i .i64 n):=nr rfl
theorem VO{sp:Sp}{a b c d e:Nat}:lenI (.isl sp a b c d e)=some (.i .i64 d):=nr rfl
theorem VP{x:Bool}:scalar (.b x)=true:=nr rfl
theorem VQ{k:IntKind}{n:Int}:scalar (.i k n)=true:=nr rfl
theorem MJ{cs:List T}:scalar (.agg cs)=false:=nr rfl
section
variable{lh:iw b8}{sh:List b8}{m g off k:Nat}{ag:Bool}
theorem aie{cs:List T}:ZC lh sh (.vp cs) m ag=Ev.part cs 0 m ag:=rfl
theorem ash:ZC lh sh (.ptr .L k g off) m ag=ldE (b7 lh k) g off m ag:=rfl
theorem asi:ZC lh sh (.ptr .S k g off) m ag=ldE (iz sh k) g off m ag:=rfl
theorem aif{cs:List T}:faV (.vp cs) off=if off≤cs.length then some (.vp (cs.drop off))else none:=rfl
theorem abI{sp:Sp}{o:Nat}:faV (.ptr sp k g o) off=some (.ptr sp k g (o+off)):=rfl
theorem abJ{cs:List T}:Rf (.vp cs)=some (.vp cs):=rfl
theorem VR{sp:Sp}{o:Nat}:Rf (.ptr sp k g o)=some (.ptr sp k g o):=rfl
theorem VS{i:List T}:aaT (.tup i) m=i[m]? :=rfl
theorem abK{l:List Nat}:ON (.s l)=some (.i .i64 l.length):=rfl
theorem aih{kk r:IntKind}{n:Int}:aaP kk (.i r n)=some (.i kk (wr kk n)):=rfl
theorem tC{m k g i off len sz wm:Nat}{lh:iw b8}{sh:List b8}{cs:List T}:Rh m lh sh k ⟨i,.cells cs wm false⟩ g off len sz=if i=g∧off+len*sz≤cs.length then some (.sl ((cs.drop off).take (len*sz)) len false,[(.L,k,⟨g,.cells cs cs.length false⟩)])else none:=rfl
theorem abL{k g r:Nat}{ks i:List T}{z:Bool}:mpV k ⟨r,.map ks i z⟩ g=if r=g then some (.vm ks i,[(.L,k,⟨g,.map ks i true⟩)])else none:=rfl
theorem DO{g i off len sz r bytes wm:Nat}{p:Nat×List T}{cs:List T}:Rj lh k ⟨i,.cells cs wm false⟩ g off len sz r bytes p=if r=sz∧off=0∧(len+p.1)*bytes≤roomy∧i=g∧len*sz=cs.length then some (.isl .L k (g+1) 0 (len+p.1) sz,nG lh k ⟨g+1,.cells (cs++p.2) wm false⟩)else none:=rfl
theorem DP{d sz bytes n:Nat}{cs:List T}:MC lh d sz bytes .nilsl (n+1,cs)=if(n+1)*bytes≤roomy then some (.isl .L d ((b7 lh d).g+1) 0 (n+1) sz,nG lh d ⟨(b7 lh d).g+1,.cells cs 0 false⟩)else none:=by
 unfold MC;rw[if_neg (Nat.succ_ne_zero n)]
theorem Kn{d sz i bytes n g off len:Nat}{cs:List T}:MC lh d sz bytes (.isl .L k g off len i) (n+1,cs)=Rj lh k (b7 lh k) g off len sz i bytes (n+1,cs):=by
 unfold MC;rw[if_neg (Nat.succ_ne_zero n)]
end
theorem pJ{α:Type}{f:α→List T}{sz:Nat}(i: ∀x,(f x).length=sz): ∀xs:List α,(xs.flatMap f).length=xs.length*sz
 | []=>by simp
 |x::xs=>by simp[List.flatMap_cons,i,pJ i xs,Nat.succ_mul,Nat.add_comm]
theorem Gu{α:Type}{f:α→List T}{sz:Nat}(i: ∀x,(f x).length=sz): ∀(xs:List α) (k:Nat) (hk:k<xs.length),(xs.flatMap f).drop (k*sz)=f xs[k]++(xs.drop (k+1)).flatMap f
 | [],k,hk=>by simp at hk
 |x::xs,0,hk=>by grind
 |x::xs,k+1,hk=>by
  have r:(k+1)*sz=(f x).length+k*sz:=by rw[i,Nat.succ_mul,Nat.add_comm]
  have D:List.drop ((f x).length+k*sz) (f x)= []:=List.drop_eq_nil_of_le (by omega)
  rw[List.flatMap_cons,r,List.drop_append,D,Nat.add_sub_cancel_left,Gu i xs k (by simpa using hk)]
  rfl
def ints(xs:List Int):List T:=xs.map (T.i .i64)
theorem kO(xs:List Int):(ints xs).length=xs.length:=by simp[ints]
theorem oQ(xs:List Int)(k:Nat)(hk:k<xs.length):(ints xs).drop k=T.i .i64 xs[k]::(ints xs).drop (k+1):=by
 rw[List.drop_eq_getElem_cons (by rw[kO];exact hk)];simp[ints]
def IsSl(v:T)(n:Nat)(cs:List T):Prop:=(v= .nilsl∧n=0∧cs= [])∨ ∃ex,v= .sl cs n ex
theorem IsSl.len{v:T}{n:Nat}{cs:List T}(h:IsSl v n cs):su v=some n:=by
 rcases h with⟨rfl,rfl,_⟩|⟨ex,rfl⟩ <;> rfl
theorem IsSl.lenI{v:T}{n:Nat}{cs:List T}(h:IsSl v n cs):lenI v=some (.i .i64 (n:Int)):=abh h.len
theorem IsSl.froz1{v:T}{n:Nat}{cs:List T}(h:IsSl v n cs):froz1 v=true:=by
 rcases h with⟨rfl,_,_⟩|⟨ex,rfl⟩ <;> rfl
theorem IsSl.froz{v:T}{n:Nat}{cs:List T}(h:IsSl v n cs):froz v=true:=by
 rcases h with⟨rfl,_,_⟩|⟨ex,rfl⟩ <;> rfl
theorem IsSl.cells{v:T}{n:Nat}{cs:List T}(h:IsSl v n cs):cellsOf v= [v]:=by
 rcases h with⟨rfl,_,_⟩|⟨ex,rfl⟩ <;> rfl
theorem IsSl.noTup{v:T}{n:Nat}{cs:List T}(h:IsSl v n cs):noTup v=true:=by
 rcases h with⟨rfl,_,_⟩|⟨ex,rfl⟩ <;> rfl
theorem IsSl.ia{v:T}{n sz k:Nat}{cs:List T}{kk:IntKind}(h:IsSl v n cs)(hc:cs.length=n*sz)(hk:k<n):lR v (.i kk (k:Int)) sz=some (.vp (cs.drop (k*sz))):=by
 rcases h with⟨rfl,rfl,_⟩|⟨ex,rfl⟩
 ·omega
 grind [oc,Int.toNat_natCast,Nat.mul_le_mul_right]
theorem IsSl.slC{v:T}{n sz:Nat}{cs:List T}{lh:iw b8}{sh:List b8}(h:IsSl v n cs)(hc:cs.length=n*sz):slC lh sh sz v=some (n,cs):=by
 rcases h with⟨rfl,rfl,rfl⟩|⟨ex,rfl⟩
 ·rfl
 ·rw[MB,if_pos hc]
end Go.Ev
namespace Go.Ev
open Go
section
variable(E:Env)(n:Nat)(b:fx)(fr:Fr)(lh:iw b8)(sh:List b8)
noncomputable def tD:Fr:=match DC E n (.loop b) ⟨fr,lh,sh⟩with|some (_,st)=>st.fr|none=>fr
noncomputable def nU:iw b8:=match DC E n (.loop b) ⟨fr,lh,sh⟩with|some (_,st)=>st.lh|none=>lh
noncomputable def ow:List b8:=match DC E n (.loop b) ⟨fr,lh,sh⟩with|some (_,st)=>st.sh|none=>sh
end
section
variable{E:Env}{n:Nat}{b:fx}{fr:Fr}{lh:iw b8}{sh:List b8}{o:Out}
theorem VT{s:Nat}(h:(j3 (.loop b)).contains s=false):an (tD E n b fr lh sh) s=an fr s:=by
 unfold tD
 cases i:DC E n (.loop b) ⟨fr,lh,sh⟩with
 |none=>rfl
 |some p=>obtain⟨o,st⟩:=p;exact lP i s h
def mn:List Nat→Nat
 | []=>0
 |s::i=>(1 <<< s) ||| mn i
theorem HG(s:Nat): ∀l:List Nat,s∈l→(mn l).testBit s=true
 | [],h=>by simp at h
 |x::xs,h=>by
  rw[mn,Nat.testBit_or]
  rcases List.mem_cons.1 h with h|h
  ·grind
  ·rw[HG s xs h];simp
theorem Gv{s:Nat}(h:(mn (j3 (.loop b)) >>> s)%2=0):an (tD E n b fr lh sh) s=an fr s:=by
 refine VT ?_
 cases hc:(j3 (.loop b)).contains s with
 |false=>rfl
 |true=>
  have i:=HG s _ (List.contains_iff_mem.1 hc)
  grind [Nat.testBit]
theorem Rw{P:Fr→iw b8→List b8→Prop}(h: ∃i r D,DC E n (.loop b) ⟨fr,lh,sh⟩=some (o,⟨i,r,D⟩)∧P i r D):
  DC E n (.loop b) ⟨fr,lh,sh⟩=some (o,⟨tD E n b fr lh sh,nU E n b fr lh sh,ow E n b fr lh sh⟩)∧P (tD E n b fr lh sh) (nU E n b fr lh sh) (ow E n b fr lh sh):=by
 grind [tD,nU,ow]
end
end Go.Ev
namespace Go.Ev
open Go
theorem Ko(m:Nat)(F:m≤62)(a:Int):Ev.bin .and (.i .i64 a) (.i .i64 (2 ^ m-1))=some (.i .i64 (a%2 ^ m)):=by
 have r:(2:Int) ^ m=((2 ^ m:Nat):Int):=by norm_cast
 have N:0<2 ^ m:=Nat.two_pow_pos m
 have H:2 ^ m≤2 ^ 62:=Nat.pow_le_pow_right (by omega) F
 have VU:(BitVec.ofInt 64 ((2:Int) ^ m-1)).toNat=2 ^ m-1:=by
  grind
 have D:(BitVec.ofInt 64 a &&& BitVec.ofInt 64 ((2:Int) ^ m-1)).toNat=(a%2 ^ m).toNat:=by
  rw[BitVec.toNat_and,VU,Nat.and_two_pow_sub_one_eq_mod,BitVec.toNat_ofInt]
  have I:0≤a%((2 ^ 64:Nat):Int):=Int.emod_nonneg _ (by omega)
  have O:(a%((2 ^ 64:Nat):Int))%((2 ^ m:Nat):Int)=a%((2 ^ m:Nat):Int):=Int.emod_emod_of_dvd a (by
   have:(2 ^ m:Nat)∣2 ^ 64:=Nat.pow_dvd_pow 2 (by omega)
   exact Int.natCast_dvd_natCast.2 this)
  have U:(((a%((2 ^ 64:Nat):Int)).toNat%2 ^ m:Nat):Int)=a%((2 ^ m:Nat):Int):=by
   grind
  grind
 have V:(IntKind.i64).bits=64:=rfl
 simp only[Ev.bin,if_true,sr]
 have J:0≤a%2 ^ m:=by rw[r];exact Int.emod_nonneg _ (by omega)
 have K:a%2 ^ m<2 ^ m:=by rw[r];exact Int.emod_lt_of_pos _ (by omega)
 grind [IntKind.wrap]
section
variable{a:Int}
theorem and_3:Ev.bin .and (.i .i64 a) (.i .i64 3)=some (.i .i64 (a%4)):=Ko 2 (by omega) a
theorem Rx:Ev.bin .and (.i .i64 a) (.i .i64 65535)=some (.i .i64 (a%65536)):=Ko 16 (by omega) a
theorem OW{k k':IntKind}{b:Int}:Ev.bin .shr (.i k a) (.i k' b)=if b<0 then none else some (.i k (a.fdiv (2 ^ (min b.toNat k.bits)))):=by
 simp only[Ev.bin,Da]
theorem Cd{k':IntKind}{b:Nat}(h:b≤64):Ev.bin .shr (.i .i64 a) (.i k' (b:Int))=some (.i .i64 (a/2 ^ b)):=by
 rw[OW,if_neg (by omega),Int.toNat_natCast]
 have:min b (IntKind.i64).bits=b:=Nat.min_eq_left h
 grind
theorem asj{k':IntKind}:Ev.bin .shr (.i .i64 a) (.i k' 3)=some (.i .i64 (a/8)):=Cd (b:=3) (by omega)
theorem asl{k':IntKind}:Ev.bin .shr (.i .i64 a) (.i k' 4)=some (.i .i64 (a/16)):=Cd (b:=4) (by omega)
end
theorem wI{n:Int}(h:0≤n∧n≤18446744073709551615):wr .u64 n=n:=by grind [wr,lo,hi]
theorem lE{a b:Int}(h:0≤a):a.tmod b=a%b:=Int.tmod_eq_emod_of_nonneg h
end Go.Ev
namespace Go.Ev
open Go
theorem DQ(x:FP):apart x qf=true:=by
 obtain⟨a,r,w⟩:=x
 simp[apart,mh,qf,LR]
theorem MK(x:FP):apart qf x=true:=by
 obtain⟨a,r,w⟩:=x
 simp[apart,mh,qf,LR]
theorem VV{r i w w':List (Sp×Nat)}:apart ⟨false,r,w⟩ ⟨false,i,w'⟩=(mh w i&&mh w w'&&mh r w'):=by
 simp[apart]
theorem ML{i:List (Sp×Nat)}:mh [] i=true:=rfl
theorem Kp{x:Sp×Nat}{xs i:List (Sp×Nat)}:mh (x::xs) i=(!i.contains x&&mh xs i):=rfl
theorem abM{x:Sp×Nat}:([]:List (Sp×Nat)).contains x=false:=rfl
theorem VW{a c:Sp}{b d:Nat}{ys:List (Sp×Nat)}:((c,d)::ys).contains (a,b)=((decide (a=c)&&decide (b=d))||ys.contains (a,b)):=by
 rw[List.contains_cons]
 have:((a,b)==(c,d))=(decide (a=c)&&decide (b=d)):=by
  cases a <;> cases c <;> by_cases h:b=d <;> simp[h]
 rw[this]
def mE:mA→Bool
 | .mv _| .pick .. | .bin .. | .eq .. | .un .. | .cvi .. | .b2s _| .mkfn .. | .build .. | .slS .. | .fa .. | .fld .. | .ia .. | .iaA .. | .ixS .. | .ixA .. | .ext .. | .lenS _| .lenV _| .lenC _| .mm .. | .nck _=>true
 | .slV _ _ _ _ none=>true
 |_=>false
theorem abN{x:iF}:mE (.mv x)=true:=nr rfl
theorem Ry{c a b:iF}:mE (.pick c a b)=true:=nr rfl
theorem VY{o:BinOp}{x y:iF}:mE (.bin o x y)=true:=nr rfl
theorem abO{o:UnOp}{x:iF}:mE (.un o x)=true:=nr rfl
theorem VZ{k:IntKind}{x:iF}:mE (.cvi k x)=true:=nr rfl
theorem pK{x:iF}:mE (.b2s x)=true:=nr rfl
theorem MM{z:List T}{i:List (Nat×Nat×iF)}:mE (.build z i)=true:=nr rfl
theorem abP{x:iF}{o:Nat}:mE (.fa x o)=true:=nr rfl
theorem abQ{x y:iF}{m:Nat}:mE (.ia x y m)=true:=nr rfl
theorem V0{x y:iF}{m k:Nat}:mE (.iaA x y m k)=true:=nr rfl
theorem V1{x:iF}{j:Nat}:mE (.ext x j)=true:=nr rfl
theorem Rz{x:iF}:mE (.lenV x)=true:=nr rfl
theorem V2{x:iF}:mE (.nck x)=true:=nr rfl
def Q.plain:Q C9→Prop
 | .ret (.val _ i)=>i= []
 | .fail=>True
 | .rd _ _ _=>False
 | .new _=>False
theorem Q.plain_run{h:Sp→Nat→b8}{r:Nat}: ∀(q:Q C9),q.plain→ ∀{v:T} {i:List Up},q.run h r=some (.val v i)→i= []∧q.asks h r=false∧q.log h r= []
 | .ret (.val _ _),hc,v,i,hr=>by simp[Q.run]at hr;obtain⟨rfl,rfl⟩:=hr;exact⟨hc,rfl,rfl⟩
 | .fail,hc,v,i,hr=>by simp[Q.run]at hr
 | .rd sp k f,hc,v,i,hr=>hc.elim
 | .new f,hc,v,i,hr=>hc.elim
theorem m5{o:Option T}:(val o).plain:=by cases o <;> simp[val,Q.plain]
theorem V3{d:Nat}{ρ:iF→T}{op:mA}(h:mE op=true):(jk d ρ op).plain∧jr ρ op=none:=by
 refine⟨?_,by cases op <;> first|rfl|(simp[mE]at h)⟩
 cases op with
 |mv x=>exact rfl
 |pick c a b=>simp only[jk];split <;> simp[Q.plain]
 |bin op x y=>exact m5
 |eq neg k x y=>exact m5
 |un op x=>exact m5
 |cvi k x=>simp only[jk];split <;> simp[Q.plain]
 |b2s x=>simp only[jk];repeat' split
         all_goals trivial
 |mkfn f a c=>exact rfl
 |build z D=>
  simp only[jk]
  by_cases r:(D.all fun p=>decide ((cellsOf (ρ p.2.2)).length=p.2.1)&&noTup (ρ p.2.2))=true
  ·rw[if_pos r];exact m5
  ·rw[if_neg r];trivial
 |slS x l h=>
  simp only[jk]
  split
  ·split
   ·split <;> simp[Q.plain]
   ·trivial
  ·trivial
 |fa x off=>
  simp only[jk]
  split
  ·split <;> simp[Q.plain]
  ·exact rfl
  ·trivial
 |fld x off m ag=>
  simp only[jk]
  split
  ·exact m5
  ·trivial
 |ia x i sz=>
  simp only[jk]
  split
  ·split <;> simp[Q.plain]
  ·split <;> simp[Q.plain]
  ·trivial
 |iaA x i len sz=>
  simp only[jk]
  split
  ·split <;> simp[Q.plain]
  ·split <;> simp[Q.plain]
  ·trivial
 |ixS x i=>
  simp only[jk]
  split
  ·split <;> simp[Q.plain]
  ·trivial
 |ixA x i len sz ag=>
  simp only[jk]
  split
  ·split
   ·exact m5
   ·trivial
  ·trivial
 |ext x j=>
  simp only[jk]
  split
  ·exact m5
  ·trivial
 |lenS x=>simp only[jk];split <;> simp[Q.plain]
 |lenV x=>exact m5
 |lenC m=>exact rfl
 |mm b as=>
  simp only[jk]
  split
  ·exact m5
  ·trivial
 |nck x=>simp only[jk];split <;> simp[Q.plain]
 |slV sz x l h F=>
  cases F with
  |some m=>simp[mE]at h
  |none=>
   simp only[jk]
   split
   ·trivial
   ·split
    ·unfold Bh
     split
     ·split <;> simp[Q.bind,Q.plain]
     ·split <;> simp[Q.bind,Q.plain]
     ·split <;> simp[Q.bind,Q.plain]
     ·trivial
    ·rename_i H;exact absurd H (by simp)
    ·trivial
 |_=>simp[mE]at h
def ke(E:Env)(call:pU)(n:Nat)(ds:List (List Nat×dy))(jJ:List FP)(x:Option St):Option St:=x.bind (iN E call n ds jJ)
def meets(u:List Nat)(jJ:List FP)(fp:FP):Bool:=u.all fun i=>apart (iE ⟨true,[],[]⟩ jJ i) fp
section
variable{E:Env}{call:pU}{n:Nat}{fr:Fr}{lh:iw b8}{sh:List b8}{ds:List (List Nat×dy)}{jJ:List FP}{u:List Nat}{d:Option Nat}
theorem abR{st:St}:ke E call n ds jJ (some st)=iN E call n ds jJ st:=rfl
theorem abS:ke E call n ds jJ none=none:=rfl
theorem aii{c:Prop}[Decidable c]{x y:Option St}:ke E call n ds jJ (if c then x else y)=if c then ke E call n ds jJ x else ke E call n ds jJ y:=by split <;> rfl
theorem RA{fp:FP}:meets [] jJ fp=true:=rfl
theorem MN{i:Nat}{fp:FP}:meets (i::u) jJ fp=(apart (iE ⟨true,[],[]⟩ jJ i) fp&&meets u jJ fp):=rfl
theorem yY:meets u jJ qf=true:=by
 unfold meets
 rw[List.all_eq_true]
 intro i _
 exact DQ _
theorem RB{st:St}:DC E n (.draws ds) st=(iN E (be E) n ds [] st).map fun i=>(.nrm,i):=Kf
theorem uk{o:dy}{fp:FP}{st:St}(h:jd E call n o st≠none→jT E call o st=some fp):
  iN E call n ((u,o)::ds) jJ st=if meets u jJ fp=true then ke E call n ds (jJ++ [fp]) (dE E call n [o] st)else none:=by
 simp only[iN]
 unfold meets ke
 cases i:jd E call n o st with
 |none=>
  have r:dE E call n [o] st=none:=by simp only[dE,i]
  rw[r]
  cases jT E call o st with
  |none=>simp
  |some D=>simp
 |some s=>
  have r:dE E call n [o] st=some s:=by simp only[dE,i]
  rw[r,h (by rw[i];simp)]
  rfl
theorem wb{op:mA}{st:St}{q:Q C9}(F:jr st.rho op=none)(I:jk (d.getD 0) st.rho op=q)(D:jd E call n ⟨d,op,none⟩ st≠none):
  ∃v i,q.run st.get st.sh.length=some (.val v i)∧((q.asks st.get st.sh.length||inB st i)=true→jT E call ⟨d,op,none⟩ st=some ⟨q.asks st.get st.sh.length,q.log st.get st.sh.length,ki i⟩):=by
 subst I
 unfold jd at D
 simp only[F]at D
 cases H:(jk (d.getD 0) st.rho op).run st.get st.sh.length with
 |none=>simp only[H]at D;exact absurd rfl D
 |some r=>
  obtain⟨v,i⟩:=r
  refine⟨v,i,rfl,fun J=> ?_⟩
  unfold jT
  simp only[F,H]
  rw[if_pos J]
theorem aij{op:mA}(F:mE op=true):iN E call n ((u,⟨d,op,none⟩)::ds) jJ ⟨fr,lh,sh⟩=ke E call n ds (jJ++ [qf]) (dE E call n [⟨d,op,none⟩] ⟨fr,lh,sh⟩):=by
 rw[uk (fp:=qf),yY,if_pos rfl]
 intro i
 obtain⟨H,I⟩:=V3 (d:=d.getD 0) (ρ:=(St.mk fr lh sh).rho) F
 unfold jd at i
 unfold jT
 simp only[I]at i ⊢
 cases D:(jk (d.getD 0) (St.mk fr lh sh).rho op).run (St.mk fr lh sh).get sh.length with
 |none=>simp only[D]at i;exact absurd rfl i
 |some r=>
  obtain⟨v,J⟩:=r
  obtain⟨rfl,K,N⟩:=Q.plain_run _ H D
  simp only[K,N,inB,List.all_nil,Bool.or_true,if_true,ki,List.map_nil]
  rfl
def rG:T→List (Sp×Nat)
 | .ptr sp k _ _=> [(sp,k)]
 |_=> []
theorem V4{cs:List T}:rG (.vp cs)= []:=rfl
theorem RC{sp:Sp}{k g off:Nat}:rG (.ptr sp k g off)= [(sp,k)]:=rfl
theorem Q.log_bind{α β:Type}{h:Sp→Nat→b8}{i:Nat}{f:α→Q β}(r: ∀a,(f a).log h i= []): ∀q:Q α,(q.bind f).log h i=q.log h i
 | .ret a=>r a
 | .fail=>rfl
 | .rd sp k g=>by show(sp,k)::((g (h sp k)).bind f).log h i=(sp,k)::(g (h sp k)).log h i;rw[Q.log_bind r (g (h sp k))]
 | .new g=>Q.log_bind r (g i)
theorem ayV{x:iF}{m:Nat}{ag:Bool}:iN E call n ((u,⟨d,.ld x m ag,none⟩)::ds) jJ ⟨fr,lh,sh⟩=
  if meets u jJ ⟨false,rG (rd fr x),[]⟩=true then ke E call n ds (jJ++ [⟨false,rG (rd fr x),[]⟩]) (dE E call n [⟨d,.ld x m ag,none⟩] ⟨fr,lh,sh⟩)else none:=by
 refine uk ?_
 intro i
 obtain⟨H,I⟩:=HC (d:=d.getD 0) (ρ:=(St.mk fr lh sh).rho) (op:= .ld x m ag) rfl
 unfold jd at i
 unfold jT
 simp only[I]at i ⊢
 cases F:(jk (d.getD 0) (St.mk fr lh sh).rho (.ld x m ag)).run (St.mk fr lh sh).get sh.length with
 |none=>simp only[F]at i;exact absurd rfl i
 |some r=>
  obtain⟨v,J⟩:=r
  obtain⟨rfl,K⟩:=Q.calm_run _ H F
  have N:(jk (d.getD 0) (St.mk fr lh sh).rho (.ld x m ag)).log (St.mk fr lh sh).get sh.length=rG (rd fr x):=by
   rw[lj]
   simp only[jk]
   rw[Q.log_bind (fun a=>rfl)]
   unfold G9 rG
   cases hx:rd fr x <;> try rfl
   ·simp only[];generalize Ev.part _ _ _ _=o;cases o <;> rfl
   ·rename_i sp k g off
    simp only[Q.log]
    congr 1
    generalize (St.mk fr lh sh).get sp k=e
    obtain⟨O,ob⟩:=e
    by_cases D:O=g
    ·cases ob with
     |cells cs wm bx=>simp only[D,if_true];generalize Ev.part _ _ _ _=o;cases o <;> rfl
     |_=>simp only[D,if_true];rfl
    ·simp only[D,if_false];rfl
  simp only[K,N,inB,List.all_nil,Bool.or_true,if_true,ki,List.map_nil]
theorem Gw{keep:Bool}{m:Nat}{h:Sp→Nat→b8}{r:Nat}: ∀(ts:List T),ts.all froz=true→(ja (fz keep (m+2)) ts).log h r= []
 | [],_=>rfl
 |t::ts,i=>by
  simp only[List.all_cons,Bool.and_eq_true]at i
  simp only[ja,pq i.1,Q.bind]
  rw[Q.log_bind (fun a=>rfl),Gw ts i.2]
theorem agD{f:Nat}{af:ij}{as:List iF}(F:E.fn f=some af)(H:af.eff=false)(I:af.own=none)(D:(as.map (rd fr)).all froz=true):
  iN E call n ((u,⟨d,.callf f as,none⟩)::ds) jJ ⟨fr,lh,sh⟩=ke E call n ds (jJ++ [qf]) (dE E call n [⟨d,.callf f as,none⟩] ⟨fr,lh,sh⟩):=by
 rw[uk (fp:=qf),yY,if_pos rfl]
 intro i
 unfold jd at i
 unfold jT
 have J:jr (St.mk fr lh sh).rho (.callf f as)=some (some (f,as.map (rd fr))):=by rw[lj];rfl
 simp only[J]at i ⊢
 rw[JD F H I D]at i
 unfold lS
 have K:(ja (fz af.eff iG) (as.map (rd fr))).run (St.mk fr lh sh).get sh.length=some (as.map (rd fr),[]):=by
  have:=yV (lh:=lh) (sh:=sh) (keep:=af.eff) D
  unfold B4 at this
  rw[qO];exact this
 simp only[F]
 rw[K]
 simp only[inB,List.all_nil,Bool.not_true,Bool.false_eq_true,if_false,H,I]
 cases hc:call f (as.map (rd fr)) []with
 |none=>rw[hc]at i;exact absurd rfl i
 |some r=>
  simp only[ki,List.map_nil,ite_self]
  have:(ja (fz false iG) (as.map (rd fr))).log (St.mk fr lh sh).get sh.length= []:=Gw _ D
  rw[this];rfl
theorem asm{z:List T}{len:Nat}{i:List (Nat×iF)}(F:(i.map fun p=>rd fr p.2).all froz=true):
  iN E call n ((u,⟨d,.bsl z len i,none⟩)::ds) jJ ⟨fr,lh,sh⟩=ke E call n ds (jJ++ [qf]) (dE E call n [⟨d,.bsl z len i,none⟩] ⟨fr,lh,sh⟩):=by
 rw[uk (fp:=qf),yY,if_pos rfl]
 intro H
 have I:ja (fz false iG) (i.map fun p=>rd fr p.2)= .ret (i.map (fun p=>rd fr p.2),[]):=by
  have: ∀(ts:List T),ts.all froz=true→ja (fz false iG) ts= .ret (ts,[]):=by
   intro ts
   induction ts with
   |nil=>intro _;rfl
   |cons t ts ih=>
    intro r
    simp only[List.all_cons,Bool.and_eq_true]at r
    rw[ja,ih r.2]
    unfold iG
    rw[pq r.1];rfl
  exact this _ F
 obtain⟨v,J,hr,D⟩:=wb (q:=if((i.map fun p=>rd fr p.2).all fun v=>decide ((cellsOf v).length=z.length)&&noTup v)=true then(match p5 (repl z len) ((i.map fun p=>p.1*z.length).zip ((i.map fun p=>rd fr p.2).map cellsOf))with|some cs=>Q.ret (.val (.sl cs len true) [])|none=> .fail)else .fail) (by rfl) (by rw[lj];simp only[jk];rw[I];rfl) H
 split at hr
 ·split at hr
  ·simp[Q.run]at hr
   obtain⟨rfl,rfl⟩:=hr
   rename_i K _ _ N
   rw[if_pos K,N]at D
   exact D rfl
  ·simp[Q.run]at hr
 ·simp[Q.run]at hr
theorem abT{i:Nat}{z:List T}:iN E call n ((u,⟨some i,.alloc z false,none⟩)::ds) jJ ⟨fr,lh,sh⟩=
  if meets u jJ ⟨false,[(.L,i)],[(.L,i)]⟩=true then ke E call n ds (jJ++ [⟨false,[(.L,i)],[(.L,i)]⟩]) (dE E call n [⟨some i,.alloc z false,none⟩] ⟨fr,lh,sh⟩)else none:=
 uk fun _=>rfl
theorem aik{i:Nat}{z:List T}{bytes:Nat}{x:iF}:iN E call n ((u,⟨some i,.mksl z bytes x false,none⟩)::ds) jJ ⟨fr,lh,sh⟩=
  if meets u jJ ⟨false,[(.L,i)],[(.L,i)]⟩=true then ke E call n ds (jJ++ [⟨false,[(.L,i)],[(.L,i)]⟩]) (dE E call n [⟨some i,.mksl z bytes x false,none⟩] ⟨fr,lh,sh⟩)else none:=by
 refine uk fun F=> ?_
 cases H:asNat (rd fr x)with
 |none=>
  obtain⟨v,r,hr,D⟩:=wb (q:= .fail) (by rfl) (by rw[lj];simp only[jk,H]) F
  simp[Q.run]at hr
 |some k=>
  obtain⟨v,r,hr,D⟩:=wb (q:=if k*bytes≤roomy&&k≤roomy then nW i false (.cells (repl z k) 0 (UD z)) (fun sp k' g=> .isl sp k' g 0 k z.length)else .fail) (by rfl) (by rw[lj];simp only[jk,H];rfl) F
  split at hr
  ·rename_i I
   rw[if_pos I]at D
   simp[nW,Q.run]at hr
   obtain⟨rfl,rfl⟩:=hr
   exact D rfl
  ·simp[Q.run]at hr
def abU:T→Bool
 | .ptr .L .. =>true
 |_=>false
theorem V5{k g off:Nat}:abU (.ptr .L k g off)=true:=nr rfl
theorem ayW{x v:iF}{m:Nat}(hx:abU (rd fr x)=true)(I:froz (rd fr v)=true):iN E call n ((u,⟨none,.st x v m,none⟩)::ds) jJ ⟨fr,lh,sh⟩=
  if meets u jJ ⟨false,rG (rd fr x),rG (rd fr x)⟩=true then ke E call n ds (jJ++ [⟨false,rG (rd fr x),rG (rd fr x)⟩]) (dE E call n [⟨none,.st x v m,none⟩] ⟨fr,lh,sh⟩)else none:=by
 refine uk fun F=> ?_
 cases E0:rd fr x with
 |ptr sp k g off=>
  cases sp with
  |S=>rw[E0]at hx;simp[abU]at hx
  |L=>
   by_cases H:(decide ((cellsOf (rd fr v)).length≠m)|| !noTup (rd fr v))=true
   ·obtain⟨w,D,hr,i⟩:=wb (q:= .fail) (by rfl) (by rw[lj];simp only[jk,rV,E0];rw[if_pos H]) F
    simp[Q.run]at hr
   ·obtain⟨w,D,hr,i⟩:=wb (q:= .rd .L k (aaZ k g off m (rd fr v))) (by rfl) (by rw[lj];simp only[jk,rV,E0];rw[if_neg H];rfl) F
    simp only[Q.run,Q.log,Q.asks,OL]at hr i
    generalize b7 lh k=e at hr i
    obtain⟨J,ob⟩:=e
    unfold aaZ at hr i
    by_cases r:J=g
    ·cases ob with
     |none=>simp[r,Q.run]at hr
     |map ks N z=>simp[r,Q.run]at hr
     |cells cs wm bx=>
      simp only[r,if_true]at hr i
      split at hr
      ·rename_i hc
       rw[if_pos hc]at i
       cases bx with
       |true=>
        simp[Q.run]at hr
        obtain⟨rfl,rfl⟩:=hr
        exact i rfl
       |false=>
        unfold iG at hr i
        simp only[Bool.false_and,Bool.false_eq_true,if_false]at hr i
        rw[pq I]at hr i
        simp only[Q.bind]at hr i
        split at hr
        ·simp[Q.run]at hr
        ·rename_i K
         rw[if_neg K]at i
         simp[Q.run]at hr
         obtain⟨rfl,rfl⟩:=hr
         exact i rfl
      ·simp[Q.run]at hr
    ·simp only[r,if_false,Q.run]at hr
     cases hr
 |_=>rw[E0]at hx;simp[abU]at hx
theorem OX{op:mA}{j:Nat}{w:Bool}(h:an fr j= .b w):iN E call n ((u,⟨d,op,some (j,w)⟩)::ds) jJ ⟨fr,lh,sh⟩=iN E call n ((u,⟨d,op,none⟩)::ds) jJ ⟨fr,lh,sh⟩:=by
 simp only[iN,jT,jd,h,if_true]
theorem V6{op:mA}{j:Nat}(h:an fr j= .b true):iN E call n ((u,⟨d,op,some (j,true)⟩)::ds) jJ ⟨fr,lh,sh⟩=iN E call n ((u,⟨d,op,none⟩)::ds) jJ ⟨fr,lh,sh⟩:=OX h
theorem V7{op:mA}{j:Nat}(h:an fr j= .b false):iN E call n ((u,⟨d,op,some (j,false)⟩)::ds) jJ ⟨fr,lh,sh⟩=iN E call n ((u,⟨d,op,none⟩)::ds) jJ ⟨fr,lh,sh⟩:=OX h
theorem abV{op:mA}{j:Nat}{w:Bool}(i:EZ n d)(h:an fr j= .b (!w)∨an fr j=iT):iN E call n ((u,⟨d,op,some (j,w)⟩)::ds) jJ ⟨fr,lh,sh⟩=iN E call n ds (jJ++ [qf]) ⟨wa fr d iT,lh,sh⟩:=by
 have r:jT E call ⟨d,op,some (j,w)⟩ ⟨fr,lh,sh⟩=some qf:=by
  unfold jT
  rcases h with h|h
  ·simp only[h];rw[if_neg (by cases w <;> simp)]
  ·simp only[h,iT]
 rw[uk (fp:=qf) (fun _=>r),yY,if_pos rfl]
 rcases h with h|h
 ·rw[MD i h];rfl
 ·rw[OP i h];rfl
theorem V8{i:Nat}{op:mA}{j:Nat}(r:i<n)(h:an fr j= .b false):iN E call n ((u,⟨some i,op,some (j,true)⟩)::ds) jJ ⟨fr,lh,sh⟩=iN E call n ds (jJ++ [qf]) ⟨kg fr i iT,lh,sh⟩:=abV (d:=some i) r (Or.inl h)
end
end Go.Ev
namespace Go.Ev
open Go
def fzW(m:Nat)(lh:iw b8)(sh:List b8)(keep:Bool)(v:T):Option (T×List Up):=(fz keep (m+1) v).run (St.mk .nil lh sh).get sh.length
def xk(m:Nat)(lh:iw b8)(sh:List b8)(keep:Bool)(i:List T):Option (List T×List Up):=(ja (fz keep (m+1)) i).run (St.mk .nil lh sh).get sh.length
section
variable{m:Nat}{lh:iw b8}{sh:List b8}{keep:Bool}
theorem AJ{v:T}(h:froz1 v=true):fzW m lh sh keep v=some (v,[]):=by unfold fzW;rw[pH h];rfl
theorem HH{k g off len sz:Nat}:fzW m lh sh keep (.isl .L k g off len sz)=Rh m lh sh k (b7 lh k) g off len sz:=by
 cases keep <;> exact arU (b7 lh k)
theorem ail{k g:Nat}:fzW m lh sh keep (.mp .L k g)=mpV k (b7 lh k) g:=by
 cases keep <;> exact mpQ (b7 lh k)
theorem V9:xk m lh sh keep []=some ([],[]):=rfl
theorem RD{v:T}{i:List T}:xk m lh sh keep (v::i)=(fzW m lh sh keep v).bind fun p=>(xk m lh sh keep i).bind fun q=>some (p.1::q.1,p.2++q.2):=by
 unfold xk fzW
 rw[ja,jh]
 congr 1
 funext p
 rw[jh]
 rfl
theorem DR{i:List T}(h:i.all froz1=true):xk m lh sh keep i=some (i,[]):=by
 unfold xk;rw[nH i h];rfl
theorem Wa{cs:List T}:fzV lh sh keep (.agg cs)=(xk 6 lh sh keep cs).map fun q=>(.agg q.1,q.2):=aaX
theorem Wb{cs:List T}:fzV lh sh keep (.tup cs)=(xk 6 lh sh keep cs).map fun q=>(.tup q.1,q.2):=aaY
theorem Wc{cs:List T}:fzW (m+1) lh sh keep (.agg cs)=(xk m lh sh keep cs).map fun q=>(.agg q.1,q.2):=by
 unfold fzW xk
 rw[Hy,jh]
 cases (ja (fz keep (m+1)) cs).run (St.mk .nil lh sh).get sh.length <;> rfl
theorem Wd{i:Bool}{v:T}:Ro lh sh i [v]=(fzV lh sh i v).map fun p=>(p.1,((St.mk .nil lh sh).ups p.2).sh):=rfl
theorem RE{i:Bool}{v u:T}{r:List T}:Ro lh sh i (v::u::r)=(fzV lh sh i (.tup (v::u::r))).map fun p=>(p.1,((St.mk .nil lh sh).ups p.2).sh):=rfl
end
theorem asn{x y:List Nat}:vz (.one .str) (.s x) (.s y)=some (decide (x=y)):=by
 simp only[vz,lL,Bool.beq_eq_decide_eq]
theorem aso{k:IntKind}{x y:Int}:vz (.one .int) (.i k x) (.i k y)=some (decide (x=y)):=by
 simp_all[vz,lL,Bool.beq_eq_decide_eq]
theorem aim{k:IntKind}{x y:Int}{s t:List Nat}:vz (.flat [.int,.str]) (.agg [.i k x,.s s]) (.agg [.i k y,.s t])=some (decide (x=y∧s=t)):=by
 simp only[vz,jK,lL,if_true,Bool.beq_eq_decide_eq]
 grind
theorem BB{x:List Nat}:isKey (.one .str) (.s x)=true:=nr rfl
theorem afv{k:IntKind}{x:Int}:isKey (.one .int) (.i k x)=true:=nr rfl
theorem We{k:IntKind}{x:Int}{s:List Nat}:isKey (.flat [.int,.str]) (.agg [.i k x,.s s])=true:=nr rfl
def asp(r:Option Bool)(i:Option (Option Nat)):Option (Option Nat):=
 match r with
 |some true=>some (some 0)
 |some false=>i.map fun r=>r.map (· +1)
 |none=>none
theorem RF{kk:EK}{k x:T}{xs:List T}:m7 kk k (x::xs)=asp (vz kk k x) (m7 kk k xs):=rfl
def lkF(F:List T)(z:T)(D:Bool)(r:Option (Option Nat)):Option T:=
 match r with
 |some (some i)=>F[i]?.map fun v=>if D=true then .tup [v,.b true]else v
 |some none=>some (if D=true then .tup [z,.b false]else z)
 |none=>none
theorem OY{kk:EK}{ks i:List T}{k z:T}{r:Bool}(h:isKey kk k=true):nz kk ks i k z r=lkF i z r (m7 kk k ks):=by
 grind [nz,lkF]
theorem Kq{r:List T}{z:T}{D:Bool}{i:Nat}:lkF r z D (some (some i))=r[i]?.map fun v=>if D=true then .tup [v,.b true]else v:=rfl
def ain(ks D:List T)(k v:T)(r:Option (Option Nat)):Option (List T×List T):=
 match r with
 |some (some i)=>some (ks.set i k,D.set i v)
 |some none=>some (ks++ [k],D++ [v])
 |none=>none
theorem abW{kk:EK}{ks i:List T}{k v:T}:qE kk k v ks i=ain ks i k v (m7 kk k ks):=by
 grind [qE,ain]
theorem RG{ks i:List T}{k v:T}:ain ks i k v (some none)=some (ks++ [k],i++ [v]):=rfl
theorem jF{g i:Nat}{ks r:List T}{z:Bool}{ek:EK}{k u:T}{D:Bool}:lkE ⟨i,.map ks r z⟩ g ek k u D=if i=g then nz ek ks r k u D else none:=rfl
theorem tE{lh:iw b8}{kk g i:Nat}{ks r:List T}{ek:EK}{k v:T}:muE lh kk ⟨i,.map ks r false⟩ g ek k v=if i=g∧isKey ek k=true then(qE ek k v ks r).map fun q=>nG lh kk ⟨g,.map q.1 q.2 false⟩else none:=rfl
end Go.Ev
namespace Go.Ev
open Go
section
variable{E:Env}{call:pU}{n:Nat}{fr:Fr}{lh:iw b8}{sh:List b8}{os:List dy}{d:Nat}
theorem Wf{z:List T}(i:d<n):dE E call n (⟨some d,.alloc z true,none⟩::os) ⟨fr,lh,sh⟩=dE E call n os ⟨kg fr d (.ptr .S sh.length 1 0),lh,iH sh sh.length ⟨1,.cells z 0 true⟩⟩:=by
 rw[pG (by rfl) (show EZ n (some d)from i)];rfl
theorem Wg(i:d<n):dE E call n (⟨some d,.mkmap true,none⟩::os) ⟨fr,lh,sh⟩=dE E call n os ⟨kg fr d (.mp .S sh.length 1),lh,iH sh sh.length ⟨1,.map [] [] false⟩⟩:=by
 rw[pG (by rfl) (show EZ n (some d)from i)];rfl
theorem RH{e:b8}{l:List b8}:iz (e::l) 0=e:=rfl
theorem sJ{e:b8}{l:List b8}{k:Nat}:iz (e::l) (k+1)=iz l k:=rfl
theorem Wh{v:b8}:iH [] 0 v= [v]:=rfl
theorem RI{e v:b8}{l:List b8}:iH (e::l) 0 v=v::l:=rfl
theorem sL{e v:b8}{l:List b8}{k:Nat}:iH (e::l) (k+1) v=e::iH l k v:=rfl
def DS(lh:iw b8)(sh:List b8)(k:Nat)(e:b8)(g off:Nat)(v:T)(m:Nat):Option (iw b8×List b8):=
 match e with
 |⟨i,.cells cs wm bx⟩=>if i=g∧(cellsOf v).length=m∧noTup v=true∧wm≤off∧off+m≤cs.length then some (lh,iH sh k ⟨g,.cells (splice cs off (cellsOf v)) wm bx⟩)else none
 |_=>none
def Kr(k g off m:Nat)(v:T)(e:b8):Q C9:=if e.g=g then match e.ob with
     | .cells cs wm bx=>if wm≤off&&off+m≤cs.length then
         (if bx&&Sp.S== .L then .ret (.val iT [(Sp.S,k,⟨g,.cells (splice cs off (cellsOf v)) wm bx⟩)])
         else(fz (bx&&Sp.S== .S) iG v).bind fun p=>if oM p.2 .S k|| !noTup p.1||(cellsOf p.1).length≠m then .fail else .ret (.val iT (p.2++ [(Sp.S,k,⟨g,.cells (splice cs off (cellsOf p.1)) wm bx⟩)])))
       else .fail
     |_=> .fail
    else .fail
theorem abX{k g off m:Nat}{v:T}(e:b8)(D:(cellsOf v).length=m)(F:noTup v=true)(H:froz v=true):nk lh sh (Q.run (St.mk .nil lh sh).get sh.length (Kr k g off m v e))=DS lh sh k e g off v m:=by
 obtain⟨I,ob⟩:=e
 unfold DS Kr
 by_cases J:I=g
 ·subst J
  cases ob with
  |none=>simp[Q.run,nk]
  |map ks N z=>simp[Q.run,nk]
  |cells cs wm bx=>
   by_cases i:wm≤off∧off+m≤cs.length
   ·have r:(decide (wm≤off)&&decide (off+m≤cs.length))=true:=by simp[i.1,i.2]
    have Mg:(bx&&Sp.S==Sp.L)=false:=by cases bx <;> rfl
    unfold iG
    simp only[if_true,r,Mg,Bool.false_eq_true,if_false]
    rw[pq H]
    have K:(oM [] Sp.S k|| !noTup v||decide ((cellsOf v).length≠m))=false:=by simp[oM,D,F]
    simp only[Q.bind,K,Bool.false_eq_true,if_false,Q.run,nk]
    rw[if_pos ⟨trivial,D,F,i⟩]
    rfl
   grind [Bool.false_eq_true,Q.run,nk]
 grind [Q.run,nk]
theorem asq{k g off m:Nat}{v:T}(D:froz v=true):stV lh sh (.ptr .S k g off) v m=DS lh sh k (iz sh k) g off v m:=by
 by_cases i:(cellsOf v).length=m
 ·cases r:noTup v with
  |false=>
   unfold stV rV
   have:(decide ((cellsOf v).length≠m)|| !noTup v)=true:=by simp[r]
   simp only[this,if_true,Q.run]
   unfold DS
   grind
  |true=>
   unfold stV rV
   have:(decide ((cellsOf v).length≠m)|| !noTup v)=false:=by simp[i,r]
   simp only[this,Bool.false_eq_true,if_false]
   exact abX (iz sh k) i r D
 ·unfold stV rV
  have:(decide ((cellsOf v).length≠m)|| !noTup v)=true:=by simp[i]
  simp only[this,if_true,Q.run]
  unfold DS
  grind
theorem kS{k g i off m wm:Nat}{cs:List T}{bx:Bool}{v:T}:DS lh sh k ⟨i,.cells cs wm bx⟩ g off v m=if i=g∧(cellsOf v).length=m∧noTup v=true∧wm≤off∧off+m≤cs.length then some (lh,iH sh k ⟨g,.cells (splice cs off (cellsOf v)) wm bx⟩)else none:=rfl
end
section
variable{E:Env}{call:pU}{n:Nat}{fr:Fr}{lh:iw b8}{sh:List b8}{ds:List (List Nat×dy)}{jJ:List FP}{u:List Nat}{d:Option Nat}
def sM:T→List (Sp×Nat)
 | .mp sp k _=> [(sp,k)]
 |_=> []
theorem Wi{sp:Sp}{k g:Nat}:sM (.mp sp k g)= [(sp,k)]:=rfl
theorem abY{h:Sp→Nat→b8}{i:Nat}{o:Option T}:(val o).log h i= []:=by cases o <;> rfl
theorem ayY{ek:EK}{m k:iF}{z:T}{i:Bool}:iN E call n ((u,⟨d,.lk ek m k z i,none⟩)::ds) jJ ⟨fr,lh,sh⟩=
  if meets u jJ ⟨false,sM (rd fr m),[]⟩=true then ke E call n ds (jJ++ [⟨false,sM (rd fr m),[]⟩]) (dE E call n [⟨d,.lk ek m k z i,none⟩] ⟨fr,lh,sh⟩)else none:=by
 refine uk fun D=> ?_
 obtain⟨F,H⟩:=HC (d:=d.getD 0) (ρ:=(St.mk fr lh sh).rho) (op:= .lk ek m k z i) rfl
 obtain⟨v,I,hr,J⟩:=wb H rfl D
 obtain⟨rfl,r⟩:=Q.calm_run _ F hr
 have K:(jk (d.getD 0) (St.mk fr lh sh).rho (.lk ek m k z i)).log (St.mk fr lh sh).get sh.length=sM (rd fr m):=by
  rw[lj]
  grind [sM,jk,Q.log,abY]
 have:=J (by rw[r];simp[inB])
 rw[this,r,K];rfl
def abZ:T→Bool
 | .mp .L .. =>true
 |_=>false
theorem ab0{k g:Nat}:abZ (.mp .L k g)=true:=nr rfl
theorem ayZ{ek:EK}{m k v:iF}(hx:abZ (rd fr m)=true)(r:froz (rd fr v)=true):iN E call n ((u,⟨none,.mu ek m k v,none⟩)::ds) jJ ⟨fr,lh,sh⟩=
  if meets u jJ ⟨false,sM (rd fr m),sM (rd fr m)⟩=true then ke E call n ds (jJ++ [⟨false,sM (rd fr m),sM (rd fr m)⟩]) (dE E call n [⟨none,.mu ek m k v,none⟩] ⟨fr,lh,sh⟩)else none:=by
 refine uk fun D=> ?_
 cases E0:rd fr m with
 |mp sp kk g=>
  cases sp with
  |S=>grind [abZ]
  |L=>
   obtain⟨w,F,hr,i⟩:=wb (q:= .rd .L kk (aa3 kk g ek (rd fr k) (rd fr v))) (by rfl) (by rw[lj];simp only[jk,E0];rfl) D
   simp only[Q.run,Q.log,Q.asks,OL]at hr i
   generalize b7 lh kk=e at hr i
   obtain⟨H,ob⟩:=e
   unfold aa3 at hr i
   by_cases I:(decide (H=g)&&isKey ek (rd fr k))=true
   ·simp only[I,if_true]at hr i
    cases ob with
    |none=>simp[Q.run]at hr
    |cells cs wm bx=>simp[Q.run]at hr
    |map ks N J=>
     cases J with
     |true=>simp[Q.run]at hr
     |false=>
      simp only[]at hr i
      unfold iG at hr i
      rw[pq r]at hr i
      simp only[Q.bind]at hr i
      split at hr
      ·rename_i q K
       simp only[oM,List.any_nil,Bool.false_eq_true,if_false,Q.run,Option.some.injEq,C9.val.injEq]at hr
       obtain⟨rfl,rfl⟩:=hr
       rw[K]at i
       simp only[oM,List.any_nil,Bool.false_eq_true,if_false]at i
       exact i rfl
      ·simp[Q.run]at hr
   grind [Bool.false_eq_true,Q.run]
 |_=>grind [abZ]
end
section
variable{E:Env}{call:pU}{n:Nat}{fr:Fr}{lh:iw b8}{sh:List b8}{ds:List (List Nat×dy)}{jJ:List FP}{d:Option Nat}
theorem ab1{r:Bool}{D sz bytes:Nat}{s x:T}{v:T}{i:List Up}{st:St}(hs:notS s=true)(h:(qD D sz bytes s x false r).run st.get st.sh.length=some (.val v i)):inB st i=true:=by
 unfold qD at h
 rw[jh]at h
 cases hx:(jL sz x).run st.get st.sh.length with
 |none=>grind
 |some p=>
  rw[hx]at h
  simp only[Option.bind_some]at h
  split at h
  ·split at h
   ·simp[Q.run]at h;rw[h.2];rfl
   ·simp[Q.run]at h;rw[h.2];rfl
   ·simp[Q.run]at h;rw[h.2];rfl
   ·simp[Q.run]at h
  ·split at h
   ·split at h
    ·simp[nW,Q.run]at h;rw[←h.2];rfl
    ·simp[Q.run]at h
   ·split at h
    ·simp[nW,Q.run]at h;rw[←h.2];rfl
    ·simp[Q.run]at h
   ·rename_i sp k g off len F
    cases sp with
    |S=>simp[notS]at hs
    |L=>
     split at h
     ·simp only[Q.run]at h
      split at h
      ·split at h
       ·split at h
        ·simp[Q.run]at h;rw[←h.2];rfl
        ·simp[Q.run]at h
       ·simp[Q.run]at h
      ·simp[Q.run]at h
     ·simp[Q.run]at h
   ·simp[Q.run]at h
end
end Go.Ev
