/- A tree evaluator over the model, proved against it (part F): where it answers, the call returns that answer. Conditions: none beyond its theorems' own. -/
import Derived.Test.YtbdfboojnfinkaaGreatEvE
set_option linter.unusedSimpArgs false
set_option linter.unusedVariables false
namespace Go.Ev
open Go
theorem ae4{x:Bool}:froz (.b x)=true:=nr rfl
theorem ae5{k:IntKind}{n:Int}:froz (.i k n)=true:=nr rfl
theorem ae6{l:List Nat}:froz (.s l)=true:=nr rfl
theorem KS:froz .nilsl=true:=nr rfl
theorem Yr{cs:List T}{n:Nat}{e:Bool}:froz (.sl cs n e)=true:=nr rfl
theorem Ys{cs:List T}:froz (.vp cs)=true:=nr rfl
theorem IE{cs:List T}:froz (.agg cs)=cs.all froz1:=nr rfl
theorem TB{cs:List T}:froz (.tup cs)=cs.all froz1:=nr rfl
theorem Yt{x:Bool}:froz1 (.b x)=true:=nr rfl
theorem xM{k:IntKind}{n:Int}:froz1 (.i k n)=true:=nr rfl
theorem F3{l:List Nat}:froz1 (.s l)=true:=nr rfl
theorem IF:froz1 .nilsl=true:=nr rfl
theorem TC{cs:List T}{n:Nat}{e:Bool}:froz1 (.sl cs n e)=true:=nr rfl
theorem F4:froz1 .nilptr=true:=nr rfl
theorem Pd{cs:List T}:cellsOf (.agg cs)=cs:=nr rfl
theorem Yu{x:Bool}:cellsOf (.b x)= [.b x]:=nr rfl
theorem Yv{k:IntKind}{n:Int}:cellsOf (.i k n)= [.i k n]:=nr rfl
theorem Yw{l:List Nat}:cellsOf (.s l)= [.s l]:=nr rfl
theorem IG:cellsOf .nilsl= [.nilsl]:=nr rfl
theorem TD{cs:List T}{n:Nat}{e:Bool}:cellsOf (.sl cs n e)= [.sl cs n e]:=nr rfl
theorem Pe{sp:Sp}{a b c d e:Nat}:cellsOf (.isl sp a b c d e)= [.isl sp a b c d e]:=nr rfl
theorem TE{sp:Sp}{a b:Nat}:cellsOf (.mp sp a b)= [.mp sp a b]:=nr rfl
theorem Pf{cs:List T}:noTup (.agg cs)=true:=nr rfl
theorem Yx{x:Bool}:noTup (.b x)=true:=nr rfl
theorem Yy{k:IntKind}{n:Int}:noTup (.i k n)=true:=nr rfl
theorem Yz{l:List Nat}:noTup (.s l)=true:=nr rfl
theorem IH:noTup .nilsl=true:=nr rfl
theorem TF{cs:List T}{n:Nat}{e:Bool}:noTup (.sl cs n e)=true:=nr rfl
theorem Pg{sp:Sp}{a b c d e:Nat}:noTup (.isl sp a b c d e)=true:=nr rfl
theorem TG{sp:Sp}{a b:Nat}:noTup (.mp sp a b)=true:=nr rfl
theorem KT:notS .nilsl=true:=nr rfl
theorem YA{cs:List T}{n:Nat}{e:Bool}:notS (.sl cs n e)=true:=nr rfl
theorem TH{a b c d e:Nat}:notS (.isl .L a b c d e)=true:=nr rfl
theorem YB{a b:Nat}:notS (.mp .L a b)=true:=nr rfl
theorem YC{cs:List T}{n:Nat}{e:Bool}:uh (.sl cs n e)=some n:=nr rfl
theorem TI:lenI .nilsl=some (.i .i64 0):=nr rfl
theorem YD{cs:List T}{n:Nat}{e:Bool}:lenI (.sl cs n e)=some (.i .i64 n):=nr rfl
theorem TJ{sp:Sp}{a b c d e:Nat}:lenI (.isl sp a b c d e)=some (.i .i64 d):=nr rfl
theorem TK{x:Bool}:scalar (.b x)=true:=nr rfl
theorem TL{k:IntKind}{n:Int}:scalar (.i k n)=true:=nr rfl
theorem KU{cs:List T}:scalar (.agg cs)=false:=nr rfl
section
variable{lh:iz ib}{sh:List ib}{m g off k:Nat}{ag:Bool}
theorem ae7{cs:List T}:WK lh sh (.vp cs) m ag=Ev.part cs 0 m ag:=rfl
theorem anY:WK lh sh (.ptr .L k g off) m ag=ldE (a6 lh k) g off m ag:=rfl
theorem anZ:WK lh sh (.ptr .S k g off) m ag=ldE (jr sh k) g off m ag:=rfl
theorem ae8{cs:List T}:faV (.vp cs) off=if off≤cs.length then some (.vp (cs.drop off))else none:=rfl
theorem YE{sp:Sp}{o:Nat}:faV (.ptr sp k g o) off=some (.ptr sp k g (o+off)):=rfl
theorem TM{cs:List T}:XR (.agg cs) off m ag=Ev.part cs off m ag:=rfl
theorem YF{cs:List T}:O4 (.vp cs)=some (.vp cs):=rfl
theorem TN{sp:Sp}{o:Nat}:O4 (.ptr sp k g o)=some (.ptr sp k g o):=rfl
theorem TO{h:List T}:XT (.tup h) m=h[m]? :=rfl
theorem YG{l:List Nat}:MF (.s l)=some (.i .i64 l.length):=rfl
theorem ae9{kk h:IntKind}{n:Int}:XP kk (.i h n)=some (.i kk (wr kk n)):=rfl
theorem tg{m k g h off len sz D:Nat}{lh:iz ib}{sh:List ib}{cs:List T}:Tj m lh sh k ⟨h,.cells cs D false⟩ g off len sz=if h=g∧off+len*sz≤cs.length then some (.sl ((cs.drop off).take (len*sz)) len false,[(.L,k,⟨g,.cells cs cs.length false⟩)])else none:=rfl
theorem YH{k g D:Nat}{ks h:List T}{z:Bool}:mpV k ⟨D,.map ks h z⟩ g=if D=g then some (.vm ks h,[(.L,k,⟨g,.map ks h true⟩)])else none:=rfl
theorem qk{g h off len sz D bytes F:Nat}{p:Nat×List T}{cs:List T}:O7 lh k ⟨h,.cells cs F false⟩ g off len sz D bytes p=if D=sz∧off=0∧(len+p.1)*bytes≤roomy∧h=g∧len*sz=cs.length then some (.isl .L k (g+1) 0 (len+p.1) sz,mr lh k ⟨g+1,.cells (cs++p.2) F false⟩)else none:=rfl
theorem jY{d sz bytes n:Nat}{cs:List T}:F0 lh d sz bytes .nilsl (n+1,cs)=if(n+1)*bytes≤roomy then some (.isl .L d ((a6 lh d).g+1) 0 (n+1) sz,mr lh d ⟨(a6 lh d).g+1,.cells cs 0 false⟩)else none:=by
 unfold F0;rw[if_neg (Nat.succ_ne_zero n)]
theorem MP{d sz bytes n len:Nat}{cs J2:List T}:F0 lh d sz bytes (.sl J2 len true) (n+1,cs)=if J2.length=len*sz∧(len+(n+1))*bytes≤roomy then some (.isl .L d ((a6 lh d).g+1) 0 (len+(n+1)) sz,mr lh d ⟨(a6 lh d).g+1,.cells (J2++cs) 0 false⟩)else none:=by
 unfold F0;rw[if_neg (Nat.succ_ne_zero n)]
theorem ql{d sz h bytes n g off len:Nat}{cs:List T}:F0 lh d sz bytes (.isl .L k g off len h) (n+1,cs)=O7 lh k (a6 lh k) g off len sz h bytes (n+1,cs):=by
 unfold F0;rw[if_neg (Nat.succ_ne_zero n)]
end
theorem r9{α:Type}{f:α→List T}{sz:Nat}(h: ∀x,(f x).length=sz): ∀xs:List α,(xs.flatMap f).length=xs.length*sz
 | []=>by simp
 |x::xs=>by simp[List.flatMap_cons,h,r9 h xs,Nat.succ_mul,Nat.add_comm]
theorem zw{α:Type}{f:α→List T}{sz:Nat}(D: ∀x,(f x).length=sz): ∀(xs:List α) (k:Nat) (h:k<xs.length),(xs.flatMap f).drop (k*sz)=f xs[k]++(xs.drop (k+1)).flatMap f
 | [],k,h=>by simp at h
 |x::xs,0,h=>by grind
 |x::xs,k+1,h=>by
  have F:(k+1)*sz=(f x).length+k*sz:=by rw[D,Nat.succ_mul,Nat.add_comm]
  have H:List.drop ((f x).length+k*sz) (f x)= []:=List.drop_eq_nil_of_le (by omega)
  rw[List.flatMap_cons,F,List.drop_append,H,Nat.add_sub_cancel_left,zw D xs k (by simpa using h)]
  rfl
def ints(xs:List Int):List T:=xs.map (T.i .i64)
theorem lB(xs:List Int):(ints xs).length=xs.length:=by simp[ints]
theorem oG(xs:List Int)(k:Nat)(h:k<xs.length):(ints xs).drop k=T.i .i64 xs[k]::(ints xs).drop (k+1):=by
 rw[List.drop_eq_getElem_cons (by rw[lB];exact h)];simp[ints]
def IsSl(v:T)(n:Nat)(cs:List T):Prop:=(v= .nilsl∧n=0∧cs= [])∨ ∃ex,v= .sl cs n ex
theorem IsSl.len{v:T}{n:Nat}{cs:List T}(h:IsSl v n cs):uh v=some n:=by
 rcases h with⟨rfl,rfl,_⟩|⟨ex,rfl⟩ <;> rfl
theorem IsSl.lenI{v:T}{n:Nat}{cs:List T}(h:IsSl v n cs):lenI v=some (.i .i64 (n:Int)):=Ye h.len
theorem IsSl.froz1{v:T}{n:Nat}{cs:List T}(h:IsSl v n cs):froz1 v=true:=by
 rcases h with⟨rfl,_,_⟩|⟨ex,rfl⟩ <;> rfl
theorem IsSl.froz{v:T}{n:Nat}{cs:List T}(h:IsSl v n cs):froz v=true:=by
 rcases h with⟨rfl,_,_⟩|⟨ex,rfl⟩ <;> rfl
theorem IsSl.cells{v:T}{n:Nat}{cs:List T}(h:IsSl v n cs):cellsOf v= [v]:=by
 rcases h with⟨rfl,_,_⟩|⟨ex,rfl⟩ <;> rfl
theorem IsSl.noTup{v:T}{n:Nat}{cs:List T}(h:IsSl v n cs):noTup v=true:=by
 rcases h with⟨rfl,_,_⟩|⟨ex,rfl⟩ <;> rfl
theorem IsSl.ia{v:T}{n sz k:Nat}{cs:List T}{kk:IntKind}(h:IsSl v n cs)(D:cs.length=n*sz)(F:k<n):pv v (.i kk (k:Int)) sz=some (.vp (cs.drop (k*sz))):=by
 rcases h with⟨rfl,rfl,_⟩|⟨ex,rfl⟩
 ·omega
 grind [lu,Int.toNat_natCast,Nat.mul_le_mul_right]
end Go.Ev
namespace Go.Ev
open Go
section
variable(E:Env)(n:Nat)(b:ic)(fr:Fr)(lh:iz ib)(sh:List ib)
noncomputable def pw:Fr:=match DC E n (.loop b) ⟨fr,lh,sh⟩with|some (_,st)=>st.fr|none=>fr
noncomputable def lZ:iz ib:=match DC E n (.loop b) ⟨fr,lh,sh⟩with|some (_,st)=>st.lh|none=>lh
noncomputable def ng:List ib:=match DC E n (.loop b) ⟨fr,lh,sh⟩with|some (_,st)=>st.sh|none=>sh
end
section
variable{E:Env}{n:Nat}{b:ic}{fr:Fr}{lh:iz ib}{sh:List ib}{o:Out}
theorem TP{s:Nat}(h:(jV (.loop b)).contains s=false):an (pw E n b fr lh sh) s=an fr s:=by
 unfold pw
 cases D:DC E n (.loop b) ⟨fr,lh,sh⟩with
 |none=>rfl
 |some p=>obtain⟨o,st⟩:=p;exact nC D s h
def mb:List Nat→Nat
 | []=>0
 |s::h=>(1 <<< s) ||| mb h
theorem F5(s:Nat): ∀l:List Nat,s∈l→(mb l).testBit s=true
 | [],h=>by simp at h
 |x::xs,h=>by
  rw[mb,Nat.testBit_or]
  rcases List.mem_cons.1 h with h|h
  ·grind
  ·rw[F5 s xs h];simp
theorem Ph{s:Nat}(h:(mb (jV (.loop b)) >>> s)%2=0):an (pw E n b fr lh sh) s=an fr s:=by
 refine TP ?_
 cases D:(jV (.loop b)).contains s with
 |false=>rfl
 |true=>
  have F:=F5 s _ (List.contains_iff_mem.1 D)
  grind [Nat.testBit]
theorem Pj{P:Fr→iz ib→List ib→Prop}(h: ∃D F H,DC E n (.loop b) ⟨fr,lh,sh⟩=some (o,⟨D,F,H⟩)∧P D F H):
  DC E n (.loop b) ⟨fr,lh,sh⟩=some (o,⟨pw E n b fr lh sh,lZ E n b fr lh sh,ng E n b fr lh sh⟩)∧P (pw E n b fr lh sh) (lZ E n b fr lh sh) (ng E n b fr lh sh):=by
 grind [pw,lZ,ng]
end
end Go.Ev
namespace Go.Ev
open Go
theorem qo(m:Nat)(F:m≤62)(a:Int):Ev.bin .and (.i .i64 a) (.i .i64 (2 ^ m-1))=some (.i .i64 (a%2 ^ m)):=by
 have h:(2:Int) ^ m=((2 ^ m:Nat):Int):=by norm_cast
 have N:0<2 ^ m:=Nat.two_pow_pos m
 have H:2 ^ m≤2 ^ 62:=Nat.pow_le_pow_right (by omega) F
 have TQ:(BitVec.ofInt 64 ((2:Int) ^ m-1)).toNat=2 ^ m-1:=by
  grind
 have D:(BitVec.ofInt 64 a &&& BitVec.ofInt 64 ((2:Int) ^ m-1)).toNat=(a%2 ^ m).toNat:=by
  rw[BitVec.toNat_and,TQ,Nat.and_two_pow_sub_one_eq_mod,BitVec.toNat_ofInt]
  have I:0≤a%((2 ^ 64:Nat):Int):=Int.emod_nonneg _ (by omega)
  have O:(a%((2 ^ 64:Nat):Int))%((2 ^ m:Nat):Int)=a%((2 ^ m:Nat):Int):=Int.emod_emod_of_dvd a (by
   have:(2 ^ m:Nat)∣2 ^ 64:=Nat.pow_dvd_pow 2 (by omega)
   exact Int.natCast_dvd_natCast.2 this)
  have U:(((a%((2 ^ 64:Nat):Int)).toNat%2 ^ m:Nat):Int)=a%((2 ^ m:Nat):Int):=by
   grind
  grind
 have V:(IntKind.i64).bits=64:=rfl
 simp only[Ev.bin,if_true,qJ]
 have J:0≤a%2 ^ m:=by rw[h];exact Int.emod_nonneg _ (by omega)
 have K:a%2 ^ m<2 ^ m:=by rw[h];exact Int.emod_lt_of_pos _ (by omega)
 grind [IntKind.wrap]
section
variable{a:Int}
theorem and_1:Ev.bin .and (.i .i64 a) (.i .i64 1)=some (.i .i64 (a%2)):=qo 1 (by omega) a
theorem and_3:Ev.bin .and (.i .i64 a) (.i .i64 3)=some (.i .i64 (a%4)):=qo 2 (by omega) a
theorem an0:Ev.bin .and (.i .i64 a) (.i .i64 7)=some (.i .i64 (a%8)):=qo 3 (by omega) a
theorem afa:Ev.bin .and (.i .i64 a) (.i .i64 15)=some (.i .i64 (a%16)):=qo 4 (by omega) a
theorem YI:Ev.bin .and (.i .i64 a) (.i .i64 255)=some (.i .i64 (a%256)):=qo 8 (by omega) a
theorem TR:Ev.bin .and (.i .i64 a) (.i .i64 1023)=some (.i .i64 (a%1024)):=qo 10 (by omega) a
theorem Pk:Ev.bin .and (.i .i64 a) (.i .i64 65535)=some (.i .i64 (a%65536)):=qo 16 (by omega) a
theorem MQ{k k':IntKind}{b:Int}:Ev.bin .shr (.i k a) (.i k' b)=if b<0 then none else some (.i k (a.fdiv (2 ^ (min b.toNat k.bits)))):=by
 simp only[Ev.bin,BS]
theorem pO{k':IntKind}{b:Nat}(h:b≤64):Ev.bin .shr (.i .i64 a) (.i k' (b:Int))=some (.i .i64 (a/2 ^ b)):=by
 rw[MQ,if_neg (by omega),Int.toNat_natCast]
 have:min b (IntKind.i64).bits=b:=Nat.min_eq_left h
 grind
theorem an1{k':IntKind}:Ev.bin .shr (.i .i64 a) (.i k' 3)=some (.i .i64 (a/8)):=pO (b:=3) (by omega)
theorem an2{k':IntKind}:Ev.bin .shr (.i .i64 a) (.i k' 4)=some (.i .i64 (a/16)):=pO (b:=4) (by omega)
theorem an3{k':IntKind}:Ev.bin .shr (.i .i64 a) (.i k' 2)=some (.i .i64 (a/4)):=pO (b:=2) (by omega)
theorem an4{k':IntKind}:Ev.bin .shr (.i .i64 a) (.i k' 0)=some (.i .i64 a):=by have:=pO (a:=a) (k':=k') (b:=0) (by omega);simpa using this
theorem an5{k':IntKind}:Ev.bin .shr (.i .i64 a) (.i k' 6)=some (.i .i64 (a/64)):=pO (b:=6) (by omega)
theorem an6{k':IntKind}:Ev.bin .shr (.i .i64 a) (.i k' 8)=some (.i .i64 (a/256)):=pO (b:=8) (by omega)
theorem afb{k':IntKind}:Ev.bin .shr (.i .i64 a) (.i k' 16)=some (.i .i64 (a/65536)):=pO (b:=16) (by omega)
end
theorem qZ{n:Int}(h:0≤n∧n≤18446744073709551615):wr .u64 n=n:=by grind [wr,lo,hi]
theorem oU{a b:Int}(h:0≤a):a.tmod b=a%b:=Int.tmod_eq_emod_of_nonneg h
end Go.Ev
namespace Go.Ev
open Go
theorem Cu(x:FP):apart x oB=true:=by
 obtain⟨a,r,w⟩:=x
 simp[apart,mD,oB,J0]
theorem KV(x:FP):apart oB x=true:=by
 obtain⟨a,r,w⟩:=x
 simp[apart,mD,oB,J0]
theorem TS{r h w w':List (Sp×Nat)}:apart ⟨false,r,w⟩ ⟨false,h,w'⟩=(mD w h&&mD w w'&&mD r w'):=by
 simp[apart]
theorem KW{h:List (Sp×Nat)}:mD [] h=true:=rfl
theorem II{x:Sp×Nat}{xs h:List (Sp×Nat)}:mD (x::xs) h=(!h.contains x&&mD xs h):=rfl
theorem YJ{x:Sp×Nat}:([]:List (Sp×Nat)).contains x=false:=rfl
theorem TT{a c:Sp}{b d:Nat}{ys:List (Sp×Nat)}:((c,d)::ys).contains (a,b)=((decide (a=c)&&decide (b=d))||ys.contains (a,b)):=by
 rw[List.contains_cons]
 have:((a,b)==(c,d))=(decide (a=c)&&decide (b=d)):=by
  cases a <;> cases c <;> by_cases h:b=d <;> simp[h]
 rw[this]
def lV:lH→Bool
 | .mv _| .pick .. | .bin .. | .eq .. | .un .. | .cvi .. | .mkfn .. | .build .. | .slS .. | .fa .. | .fld .. | .ia .. | .iaA .. | .ixS .. | .ixA .. | .ext .. | .lenS _| .lenV _| .lenC _| .mm .. | .nck _=>true
 | .slV _ _ _ _ none=>true
 |_=>false
theorem YK{x:iD}:lV (.mv x)=true:=nr rfl
theorem Pl{c a b:iD}:lV (.pick c a b)=true:=nr rfl
theorem TU{o:BinOp}{x y:iD}:lV (.bin o x y)=true:=nr rfl
theorem YL{o:UnOp}{x:iD}:lV (.un o x)=true:=nr rfl
theorem TV{k:IntKind}{x:iD}:lV (.cvi k x)=true:=nr rfl
theorem KX{z:List T}{h:List (Nat×Nat×iD)}:lV (.build z h)=true:=nr rfl
theorem YM{x:iD}{o:Nat}:lV (.fa x o)=true:=nr rfl
theorem TW{x:iD}{o m:Nat}{g:Bool}:lV (.fld x o m g)=true:=nr rfl
theorem YN{x y:iD}{m:Nat}:lV (.ia x y m)=true:=nr rfl
theorem TX{x y:iD}{m k:Nat}:lV (.iaA x y m k)=true:=nr rfl
theorem TY{x:iD}{j:Nat}:lV (.ext x j)=true:=nr rfl
theorem Pm{x:iD}:lV (.lenV x)=true:=nr rfl
theorem YO{g:Bool}{as:List iD}:lV (.mm g as)=true:=nr rfl
theorem TZ{x:iD}:lV (.nck x)=true:=nr rfl
theorem T0{m:Nat}{x:iD}{l h:Option iD}:lV (.slV m x l h none)=true:=nr rfl
def Q.plain:Q BR→Prop
 | .ret (.val _ h)=>h= []
 | .fail=>True
 | .rd _ _ _=>False
 | .new _=>False
theorem Q.plain_run{h:Sp→Nat→ib}{I:Nat}: ∀(q:Q BR),q.plain→ ∀{v:T} {D:List Up},q.run h I=some (.val v D)→D= []∧q.asks h I=false∧q.log h I= []
 | .ret (.val _ _),F,v,D,H=>by simp[Q.run]at H;obtain⟨rfl,rfl⟩:=H;exact⟨F,rfl,rfl⟩
 | .fail,F,v,D,H=>by simp[Q.run]at H
 | .rd sp k f,F,v,D,H=>F.elim
 | .new f,F,v,D,H=>F.elim
theorem mW{o:Option T}:(val o).plain:=by cases o <;> simp[val,Q.plain]
theorem T1{d:Nat}{ρ:iD→T}{op:lH}(h:lV op=true):(jk d ρ op).plain∧jq ρ op=none:=by
 refine⟨?_,by cases op <;> first|rfl|(simp[lV]at h)⟩
 cases op with
 |mv x=>exact rfl
 |pick c a b=>simp only[jk];split <;> simp[Q.plain]
 |bin op x y=>exact mW
 |eq neg k x y=>exact mW
 |un op x=>exact mW
 |cvi k x=>simp only[jk];split <;> simp[Q.plain]
 |mkfn f a c=>exact rfl
 |build z H=>
  simp only[jk]
  by_cases F:(H.all fun p=>decide ((cellsOf (ρ p.2.2)).length=p.2.1)&&noTup (ρ p.2.2))=true
  ·rw[if_pos F];exact mW
  ·rw[if_neg F];trivial
 |slS x l h=>
  simp only[jk]
  split
  ·split
   ·split <;> simp[Q.plain]
   ·trivial
  ·trivial
 |fa x off=>
  simp only[jk]
  split
  ·split <;> simp[Q.plain]
  ·exact rfl
  ·trivial
 |fld x off m ag=>
  simp only[jk]
  split
  ·exact mW
  ·trivial
 |ia x D sz=>
  simp only[jk]
  split
  ·split <;> simp[Q.plain]
  ·split <;> simp[Q.plain]
  ·trivial
 |iaA x D len sz=>
  simp only[jk]
  split
  ·split <;> simp[Q.plain]
  ·split <;> simp[Q.plain]
  ·trivial
 |ixS x D=>
  simp only[jk]
  split
  ·split <;> simp[Q.plain]
  ·trivial
 |ixA x D len sz ag=>
  simp only[jk]
  split
  ·split
   ·exact mW
   ·trivial
  ·trivial
 |ext x j=>
  simp only[jk]
  split
  ·exact mW
  ·trivial
 |lenS x=>simp only[jk];split <;> simp[Q.plain]
 |lenV x=>exact mW
 |lenC m=>exact rfl
 |mm b as=>
  simp only[jk]
  split
  ·exact mW
  ·trivial
 |nck x=>simp only[jk];split <;> simp[Q.plain]
 |slV sz x l h I=>
  cases I with
  |some m=>simp[lV]at h
  |none=>
   simp only[jk]
   split
   ·trivial
   ·split
    ·unfold z7
     split
     ·split <;> simp[Q.bind,Q.plain]
     ·split <;> simp[Q.bind,Q.plain]
     ·split <;> simp[Q.bind,Q.plain]
     ·trivial
    ·rename_i J;exact absurd J (by simp)
    ·trivial
 |_=>simp[lV]at h
def ke(E:Env)(call:p7)(n:Nat)(ds:List (List Nat×be))(jT:List FP)(x:Option St):Option St:=x.bind (iQ E call n ds jT)
def meets(u:List Nat)(jT:List FP)(fp:FP):Bool:=u.all fun i=>apart (iC ⟨true,[],[]⟩ jT i) fp
section
variable{E:Env}{call:p7}{n:Nat}{fr:Fr}{lh:iz ib}{sh:List ib}{ds:List (List Nat×be)}{jT:List FP}{u:List Nat}{d:Option Nat}
theorem YP{st:St}:ke E call n ds jT (some st)=iQ E call n ds jT st:=rfl
theorem afc{c:Prop}[Decidable c]{x y:Option St}:ke E call n ds jT (if c then x else y)=if c then ke E call n ds jT x else ke E call n ds jT y:=by split <;> rfl
theorem Pn{fp:FP}:meets [] jT fp=true:=rfl
theorem KY{i:Nat}{fp:FP}:meets (i::u) jT fp=(apart (iC ⟨true,[],[]⟩ jT i) fp&&meets u jT fp):=rfl
theorem xN:meets u jT oB=true:=by
 unfold meets
 rw[List.all_eq_true]
 intro i _
 exact Cu _
theorem Po{st:St}:DC E n (.draws ds) st=(iQ E (hZ E) n ds [] st).map fun h=>(.nrm,h):=Iy
theorem uB{o:be}{fp:FP}{st:St}(h:ja E call n o st≠none→jC E call o st=some fp):
  iQ E call n ((u,o)::ds) jT st=if meets u jT fp=true then ke E call n ds (jT++ [fp]) (ij E call n [o] st)else none:=by
 simp only[iQ]
 unfold meets ke
 cases D:ja E call n o st with
 |none=>
  have F:ij E call n [o] st=none:=by simp only[ij,D]
  rw[F]
  cases jC E call o st with
  |none=>simp
  |some H=>simp
 |some s=>
  have F:ij E call n [o] st=some s:=by simp only[ij,D]
  rw[F,h (by rw[D];simp)]
  rfl
theorem xO{op:lH}{st:St}{q:Q BR}(Ck:jq st.rho op=none)(H:jk (d.getD 0) st.rho op=q)(D:ja E call n ⟨d,op,none⟩ st≠none):
  ∃v h,q.run st.get st.sh.length=some (.val v h)∧((q.asks st.get st.sh.length||vW st h)=true→jC E call ⟨d,op,none⟩ st=some ⟨q.asks st.get st.sh.length,q.log st.get st.sh.length,j4 h⟩):=by
 subst H
 unfold ja at D
 simp only[Ck]at D
 cases F:(jk (d.getD 0) st.rho op).run st.get st.sh.length with
 |none=>simp only[F]at D;exact absurd rfl D
 |some r=>
  obtain⟨v,h⟩:=r
  refine⟨v,h,rfl,fun I=> ?_⟩
  unfold jC
  simp only[Ck,F]
  rw[if_pos I]
theorem afd{op:lH}(F:lV op=true):iQ E call n ((u,⟨d,op,none⟩)::ds) jT ⟨fr,lh,sh⟩=ke E call n ds (jT++ [oB]) (ij E call n [⟨d,op,none⟩] ⟨fr,lh,sh⟩):=by
 rw[uB (fp:=oB),xN,if_pos rfl]
 intro h
 obtain⟨H,Ck⟩:=T1 (d:=d.getD 0) (ρ:=(St.mk fr lh sh).rho) F
 unfold ja at h
 unfold jC
 simp only[Ck]at h ⊢
 cases D:(jk (d.getD 0) (St.mk fr lh sh).rho op).run (St.mk fr lh sh).get sh.length with
 |none=>simp only[D]at h;exact absurd rfl h
 |some r=>
  obtain⟨v,I⟩:=r
  obtain⟨rfl,J,K⟩:=Q.plain_run _ H D
  simp only[J,K,vW,List.all_nil,Bool.or_true,if_true,j4,List.map_nil]
  rfl
def q8:T→List (Sp×Nat)
 | .ptr sp k _ _=> [(sp,k)]
 |_=> []
theorem T2{cs:List T}:q8 (.vp cs)= []:=rfl
theorem Pp{sp:Sp}{k g off:Nat}:q8 (.ptr sp k g off)= [(sp,k)]:=rfl
theorem Q.log_bind{α β:Type}{h:Sp→Nat→ib}{D:Nat}{f:α→Q β}(F: ∀a,(f a).log h D= []): ∀q:Q α,(q.bind f).log h D=q.log h D
 | .ret a=>F a
 | .fail=>rfl
 | .rd sp k g=>by show(sp,k)::((g (h sp k)).bind f).log h D=(sp,k)::(g (h sp k)).log h D;rw[Q.log_bind F (g (h sp k))]
 | .new g=>Q.log_bind F (g D)
theorem auK{x:iD}{m:Nat}{ag:Bool}:iQ E call n ((u,⟨d,.ld x m ag,none⟩)::ds) jT ⟨fr,lh,sh⟩=
  if meets u jT ⟨false,q8 (rd fr x),[]⟩=true then ke E call n ds (jT++ [⟨false,q8 (rd fr x),[]⟩]) (ij E call n [⟨d,.ld x m ag,none⟩] ⟨fr,lh,sh⟩)else none:=by
 refine uB ?_
 intro h
 obtain⟨H,Ck⟩:=F1 (d:=d.getD 0) (ρ:=(St.mk fr lh sh).rho) (op:= .ld x m ag) rfl
 unfold ja at h
 unfold jC
 simp only[Ck]at h ⊢
 cases F:(jk (d.getD 0) (St.mk fr lh sh).rho (.ld x m ag)).run (St.mk fr lh sh).get sh.length with
 |none=>simp only[F]at h;exact absurd rfl h
 |some r=>
  obtain⟨v,I⟩:=r
  obtain⟨rfl,J⟩:=Q.calm_run _ H F
  have K:(jk (d.getD 0) (St.mk fr lh sh).rho (.ld x m ag)).log (St.mk fr lh sh).get sh.length=q8 (rd fr x):=by
   rw[lG]
   simp only[jk]
   rw[Q.log_bind (fun a=>rfl)]
   unfold Fu q8
   cases O:rd fr x <;> try rfl
   ·simp only[];generalize Ev.part _ _ _ _=o;cases o <;> rfl
   ·rename_i sp k g off
    simp only[Q.log]
    congr 1
    generalize (St.mk fr lh sh).get sp k=e
    obtain⟨N,ob⟩:=e
    by_cases D:N=g
    ·cases ob with
     |cells cs U bx=>simp only[D,if_true];generalize Ev.part _ _ _ _=o;cases o <;> rfl
     |_=>simp only[D,if_true];rfl
    ·simp only[D,if_false];rfl
  simp only[J,K,vW,List.all_nil,Bool.or_true,if_true,j4,List.map_nil]
theorem Ez{keep:Bool}{m:Nat}{h:Sp→Nat→ib}{F:Nat}: ∀(ts:List T),ts.all froz=true→(jd (fz keep (m+2)) ts).log h F= []
 | [],_=>rfl
 |t::ts,D=>by
  simp only[List.all_cons,Bool.and_eq_true]at D
  simp only[jd,oS D.1,Q.bind]
  rw[Q.log_bind (fun a=>rfl),Ez ts D.2]
theorem adw{f:Nat}{af:ig}{as:List iD}(F:E.fn f=some af)(H:af.eff=false)(I:af.own=none)(D:(as.map (rd fr)).all froz=true):
  iQ E call n ((u,⟨d,.callf f as,none⟩)::ds) jT ⟨fr,lh,sh⟩=ke E call n ds (jT++ [oB]) (ij E call n [⟨d,.callf f as,none⟩] ⟨fr,lh,sh⟩):=by
 rw[uB (fp:=oB),xN,if_pos rfl]
 intro h
 unfold ja at h
 unfold jC
 have Ck:jq (St.mk fr lh sh).rho (.callf f as)=some (some (f,as.map (rd fr))):=by rw[lG];rfl
 simp only[Ck]at h ⊢
 rw[HT F H I D]at h
 unfold lE
 have J:(jd (fz af.eff iE) (as.map (rd fr))).run (St.mk fr lh sh).get sh.length=some (as.map (rd fr),[]):=by
  have:=uA (lh:=lh) (sh:=sh) (keep:=af.eff) D
  unfold Dn at this
  rw[rC];exact this
 simp only[F]
 rw[J]
 simp only[vW,List.all_nil,Bool.not_true,Bool.false_eq_true,if_false,H,I]
 cases K:call f (as.map (rd fr)) []with
 |none=>rw[K]at h;exact absurd rfl h
 |some r=>
  simp only[j4,List.map_nil,ite_self]
  have:(jd (fz false iE) (as.map (rd fr))).log (St.mk fr lh sh).get sh.length= []:=Ez _ D
  rw[this];rfl
theorem an7{z:List T}{len:Nat}{h:List (Nat×iD)}(I:(h.map fun p=>rd fr p.2).all froz=true):
  iQ E call n ((u,⟨d,.bsl z len h,none⟩)::ds) jT ⟨fr,lh,sh⟩=ke E call n ds (jT++ [oB]) (ij E call n [⟨d,.bsl z len h,none⟩] ⟨fr,lh,sh⟩):=by
 rw[uB (fp:=oB),xN,if_pos rfl]
 intro J
 have K:jd (fz false iE) (h.map fun p=>rd fr p.2)= .ret (h.map (fun p=>rd fr p.2),[]):=by
  have: ∀(ts:List T),ts.all froz=true→jd (fz false iE) ts= .ret (ts,[]):=by
   intro ts
   induction ts with
   |nil=>intro _;rfl
   |cons t ts ih=>
    intro F
    simp only[List.all_cons,Bool.and_eq_true]at F
    rw[jd,ih F.2]
    unfold iE
    rw[oS F.1];rfl
  exact this _ I
 obtain⟨v,N,D,H⟩:=xO (q:=if((h.map fun p=>rd fr p.2).all fun v=>decide ((cellsOf v).length=z.length)&&noTup v)=true then(match pB (repl z len) ((h.map fun p=>p.1*z.length).zip ((h.map fun p=>rd fr p.2).map cellsOf))with|some cs=>Q.ret (.val (.sl cs len true) [])|none=> .fail)else .fail) (by rfl) (by rw[lG];simp only[jk];rw[K];rfl) J
 split at D
 ·split at D
  ·simp[Q.run]at D
   obtain⟨rfl,rfl⟩:=D
   rename_i O _ _ U
   rw[if_pos O,U]at H
   exact H rfl
  ·simp[Q.run]at D
 ·simp[Q.run]at D
theorem YQ{h:Nat}{z:List T}:iQ E call n ((u,⟨some h,.alloc z false,none⟩)::ds) jT ⟨fr,lh,sh⟩=
  if meets u jT ⟨false,[(.L,h)],[(.L,h)]⟩=true then ke E call n ds (jT++ [⟨false,[(.L,h)],[(.L,h)]⟩]) (ij E call n [⟨some h,.alloc z false,none⟩] ⟨fr,lh,sh⟩)else none:=
 uB fun _=>rfl
theorem afe{h:Nat}{z:List T}{bytes:Nat}{x:iD}:iQ E call n ((u,⟨some h,.mksl z bytes x false,none⟩)::ds) jT ⟨fr,lh,sh⟩=
  if meets u jT ⟨false,[(.L,h)],[(.L,h)]⟩=true then ke E call n ds (jT++ [⟨false,[(.L,h)],[(.L,h)]⟩]) (ij E call n [⟨some h,.mksl z bytes x false,none⟩] ⟨fr,lh,sh⟩)else none:=by
 refine uB fun I=> ?_
 cases J:asNat (rd fr x)with
 |none=>
  obtain⟨v,F,D,H⟩:=xO (q:= .fail) (by rfl) (by rw[lG];simp only[jk,J]) I
  simp[Q.run]at D
 |some k=>
  obtain⟨v,F,D,H⟩:=xO (q:=if k*bytes≤roomy&&k≤roomy then ot h false (.cells (repl z k) 0 (Xg z)) (fun sp k' g=> .isl sp k' g 0 k z.length)else .fail) (by rfl) (by rw[lG];simp only[jk,J];rfl) I
  split at D
  ·rename_i K
   rw[if_pos K]at H
   simp[ot,Q.run]at D
   obtain⟨rfl,rfl⟩:=D
   exact H rfl
  ·simp[Q.run]at D
def YR:T→Bool
 | .ptr .L .. =>true
 |_=>false
theorem T3{k g off:Nat}:YR (.ptr .L k g off)=true:=nr rfl
theorem auL{x v:iD}{m:Nat}(F:YR (rd fr x)=true)(N:froz (rd fr v)=true):iQ E call n ((u,⟨none,.st x v m,none⟩)::ds) jT ⟨fr,lh,sh⟩=
  if meets u jT ⟨false,q8 (rd fr x),q8 (rd fr x)⟩=true then ke E call n ds (jT++ [⟨false,q8 (rd fr x),q8 (rd fr x)⟩]) (ij E call n [⟨none,.st x v m,none⟩] ⟨fr,lh,sh⟩)else none:=by
 refine uB fun J=> ?_
 cases IJ:rd fr x with
 |ptr sp k g off=>
  cases sp with
  |S=>rw[IJ]at F;simp[YR]at F
  |L=>
   by_cases K:(decide ((cellsOf (rd fr v)).length≠m)|| !noTup (rd fr v))=true
   ·obtain⟨w,I,h,D⟩:=xO (q:= .fail) (by rfl) (by rw[lG];simp only[jk,tP,IJ];rw[if_pos K]) J
    simp[Q.run]at h
   ·obtain⟨w,I,h,D⟩:=xO (q:= .rd .L k (XZ k g off m (rd fr v))) (by rfl) (by rw[lG];simp only[jk,tP,IJ];rw[if_neg K];rfl) J
    simp only[Q.run,Q.log,Q.asks,MD]at h D
    generalize a6 lh k=e at h D
    obtain⟨O,ob⟩:=e
    unfold XZ at h D
    by_cases H:O=g
    ·cases ob with
     |none=>simp[H,Q.run]at h
     |map ks W z=>simp[H,Q.run]at h
     |cells cs X bx=>
      simp only[H,if_true]at h D
      split at h
      ·rename_i U
       rw[if_pos U]at D
       cases bx with
       |true=>
        simp[Q.run]at h
        obtain⟨rfl,rfl⟩:=h
        exact D rfl
       |false=>
        unfold iE at h D
        simp only[Bool.false_and,Bool.false_eq_true,if_false]at h D
        rw[oS N]at h D
        simp only[Q.bind]at h D
        split at h
        ·simp[Q.run]at h
        ·rename_i V
         rw[if_neg V]at D
         simp[Q.run]at h
         obtain⟨rfl,rfl⟩:=h
         exact D rfl
      ·simp[Q.run]at h
    ·simp only[H,if_false,Q.run]at h
     cases h
 |_=>rw[IJ]at F;simp[YR]at F
theorem YS{op:lH}{j:Nat}{w:Bool}(h:an fr j= .b w):iQ E call n ((u,⟨d,op,some (j,w)⟩)::ds) jT ⟨fr,lh,sh⟩=iQ E call n ((u,⟨d,op,none⟩)::ds) jT ⟨fr,lh,sh⟩:=by
 simp only[iQ,jC,ja,h,if_true]
theorem T4{op:lH}{j:Nat}(h:an fr j= .b true):iQ E call n ((u,⟨d,op,some (j,true)⟩)::ds) jT ⟨fr,lh,sh⟩=iQ E call n ((u,⟨d,op,none⟩)::ds) jT ⟨fr,lh,sh⟩:=YS h
theorem YT{op:lH}{j:Nat}{w:Bool}(D:DH n d)(h:an fr j= .b (!w)∨an fr j=iI):iQ E call n ((u,⟨d,op,some (j,w)⟩)::ds) jT ⟨fr,lh,sh⟩=iQ E call n ds (jT++ [oB]) ⟨vO fr d iI,lh,sh⟩:=by
 have F:jC E call ⟨d,op,some (j,w)⟩ ⟨fr,lh,sh⟩=some oB:=by
  unfold jC
  rcases h with h|h
  ·simp only[h];rw[if_neg (by cases w <;> simp)]
  ·simp only[h,iI]
 rw[uB (fp:=oB) (fun _=>F),xN,if_pos rfl]
 rcases h with h|h
 ·rw[KO D h];rfl
 ·rw[MI D h];rfl
theorem T5{D:Nat}{op:lH}{j:Nat}(F:D<n)(h:an fr j= .b false):iQ E call n ((u,⟨some D,op,some (j,true)⟩)::ds) jT ⟨fr,lh,sh⟩=iQ E call n ds (jT++ [oB]) ⟨j3 fr D iI,lh,sh⟩:=YT (d:=some D) F (Or.inl h)
end
end Go.Ev
namespace Go.Ev
open Go
def fzW(m:Nat)(lh:iz ib)(sh:List ib)(keep:Bool)(v:T):Option (T×List Up):=(fz keep (m+1) v).run (St.mk .nil lh sh).get sh.length
def xP(m:Nat)(lh:iz ib)(sh:List ib)(keep:Bool)(h:List T):Option (List T×List Up):=(jd (fz keep (m+1)) h).run (St.mk .nil lh sh).get sh.length
section
variable{m:Nat}{lh:iz ib}{sh:List ib}{keep:Bool}
theorem vt{v:T}(h:froz1 v=true):fzW m lh sh keep v=some (v,[]):=by unfold fzW;rw[uy h];rfl
theorem AV{k g off len sz:Nat}:fzW m lh sh keep (.isl .L k g off len sz)=Tj m lh sh k (a6 lh k) g off len sz:=by
 cases keep <;> exact anB (a6 lh k)
theorem aff{k g:Nat}:fzW m lh sh keep (.mp .L k g)=mpV k (a6 lh k) g:=by
 cases keep <;> exact mpQ (a6 lh k)
theorem IK:xP m lh sh keep []=some ([],[]):=rfl
theorem EA{v:T}{h:List T}:xP m lh sh keep (v::h)=(fzW m lh sh keep v).bind fun p=>(xP m lh sh keep h).bind fun q=>some (p.1::q.1,p.2++q.2):=by
 unfold xP fzW
 rw[jd,jt]
 congr 1
 funext p
 rw[jt]
 rfl
theorem oH{D:List T}(h:D.all froz1=true):xP m lh sh keep D=some (D,[]):=by
 unfold xP;rw[nI D h];rfl
theorem IL{cs:List T}:fzV lh sh keep (.agg cs)=(xP 6 lh sh keep cs).map fun q=>(.agg q.1,q.2):=XX
theorem T6{cs:List T}:fzV lh sh keep (.tup cs)=(xP 6 lh sh keep cs).map fun q=>(.tup q.1,q.2):=XY
theorem T7{cs:List T}:fzW (m+1) lh sh keep (.agg cs)=(xP m lh sh keep cs).map fun q=>(.agg q.1,q.2):=by
 unfold fzW xP
 rw[FX,jt]
 cases (jd (fz keep (m+1)) cs).run (St.mk .nil lh sh).get sh.length <;> rfl
theorem T8{h:Bool}{v:T}:Pb lh sh h [v]=(fzV lh sh h v).map fun p=>(p.1,((St.mk .nil lh sh).ups p.2).sh):=rfl
theorem Pq{h:Bool}{v u:T}{D:List T}:Pb lh sh h (v::u::D)=(fzV lh sh h (.tup (v::u::D))).map fun p=>(p.1,((St.mk .nil lh sh).ups p.2).sh):=rfl
end
theorem an8{x y:List Nat}:tO (.one .str) (.s x) (.s y)=some (decide (x=y)):=by
 simp only[tO,kO,Bool.beq_eq_decide_eq]
theorem an9{k:IntKind}{x y:Int}:tO (.one .int) (.i k x) (.i k y)=some (decide (x=y)):=by
 simp_all[tO,kO,Bool.beq_eq_decide_eq]
theorem afg{k:IntKind}{x y:Int}{s t:List Nat}:tO (.flat [.int,.str]) (.agg [.i k x,.s s]) (.agg [.i k y,.s t])=some (decide (x=y∧s=t)):=by
 simp only[tO,ju,kO,if_true,Bool.beq_eq_decide_eq]
 grind
theorem Aq{x:List Nat}:isKey (.one .str) (.s x)=true:=nr rfl
theorem acs{k:IntKind}{x:Int}:isKey (.one .int) (.i k x)=true:=nr rfl
theorem T9{k:IntKind}{x:Int}{s:List Nat}:isKey (.flat [.int,.str]) (.agg [.i k x,.s s])=true:=nr rfl
def aoa(r:Option Bool)(h:Option (Option Nat)):Option (Option Nat):=
 match r with
 |some true=>some (some 0)
 |some false=>h.map fun r=>r.map (· +1)
 |none=>none
theorem Pr{kk:EK}{k x:T}{xs:List T}:m9 kk k (x::xs)=aoa (tO kk k x) (m9 kk k xs):=rfl
def lkF(D:List T)(z:T)(h:Bool)(r:Option (Option Nat)):Option T:=
 match r with
 |some (some i)=>D[i]?.map fun v=>if h=true then .tup [v,.b true]else v
 |some none=>some (if h=true then .tup [z,.b false]else z)
 |none=>none
theorem MR{kk:EK}{ks D:List T}{k z:T}{F:Bool}(h:isKey kk k=true):nF kk ks D k z F=lkF D z F (m9 kk k ks):=by
 grind [nF,lkF]
theorem IM{h:List T}{z:T}{D:Bool}{i:Nat}:lkF h z D (some (some i))=h[i]?.map fun v=>if D=true then .tup [v,.b true]else v:=rfl
def afh(ks h:List T)(k v:T)(r:Option (Option Nat)):Option (List T×List T):=
 match r with
 |some (some i)=>some (ks.set i k,h.set i v)
 |some none=>some (ks++ [k],h++ [v])
 |none=>none
theorem YU{kk:EK}{ks h:List T}{k v:T}:p6 kk k v ks h=afh ks h k v (m9 kk k ks):=by
 grind [p6,afh]
theorem Ps{ks h:List T}{k v:T}:afh ks h k v (some none)=some (ks++ [k],h++ [v]):=rfl
theorem jB{g h:Nat}{ks D:List T}{z:Bool}{F:EK}{k u:T}{H:Bool}:lkE ⟨h,.map ks D z⟩ g F k u H=if h=g then nF F ks D k u H else none:=rfl
theorem th{lh:iz ib}{kk g D:Nat}{ks F:List T}{h:EK}{k v:T}:muE lh kk ⟨D,.map ks F false⟩ g h k v=if D=g∧isKey h k=true then(p6 h k v ks F).map fun q=>mr lh kk ⟨g,.map q.1 q.2 false⟩else none:=rfl
end Go.Ev
namespace Go.Ev
open Go
section
variable{E:Env}{call:p7}{n:Nat}{fr:Fr}{lh:iz ib}{sh:List ib}{os:List be}{d:Nat}
theorem Ua{z:List T}(h:d<n):ij E call n (⟨some d,.alloc z true,none⟩::os) ⟨fr,lh,sh⟩=ij E call n os ⟨j3 fr d (.ptr .S sh.length 1 0),lh,jO sh sh.length ⟨1,.cells z 0 true⟩⟩:=by
 rw[pG (by rfl) (show DH n (some d)from h)];rfl
theorem Ub(h:d<n):ij E call n (⟨some d,.mkmap true,none⟩::os) ⟨fr,lh,sh⟩=ij E call n os ⟨j3 fr d (.mp .S sh.length 1),lh,jO sh sh.length ⟨1,.map [] [] false⟩⟩:=by
 rw[pG (by rfl) (show DH n (some d)from h)];rfl
theorem Pt{e:ib}{l:List ib}:jr (e::l) 0=e:=rfl
theorem Uc{v:ib}:jO [] 0 v= [v]:=rfl
theorem Pu{e v:ib}{l:List ib}:jO (e::l) 0 v=v::l:=rfl
theorem zx{e v:ib}{l:List ib}{k:Nat}:jO (e::l) (k+1) v=e::jO l k v:=rfl
def Cv(lh:iz ib)(sh:List ib)(k:Nat)(e:ib)(g off:Nat)(v:T)(m:Nat):Option (iz ib×List ib):=
 match e with
 |⟨D,.cells cs h bx⟩=>if D=g∧(cellsOf v).length=m∧noTup v=true∧h≤off∧off+m≤cs.length then some (lh,jO sh k ⟨g,.cells (splice cs off (cellsOf v)) h bx⟩)else none
 |_=>none
def Pv(k g off m:Nat)(v:T)(e:ib):Q BR:=if e.g=g then match e.ob with
     | .cells cs h bx=>if h≤off&&off+m≤cs.length then
         (if bx&&Sp.S== .L then .ret (.val iI [(Sp.S,k,⟨g,.cells (splice cs off (cellsOf v)) h bx⟩)])
         else(fz (bx&&Sp.S== .S) iE v).bind fun p=>if oC p.2 .S k|| !noTup p.1||(cellsOf p.1).length≠m then .fail else .ret (.val iI (p.2++ [(Sp.S,k,⟨g,.cells (splice cs off (cellsOf p.1)) h bx⟩)])))
       else .fail
     |_=> .fail
    else .fail
theorem YV{k g off m:Nat}{v:T}(e:ib)(F:(cellsOf v).length=m)(H:noTup v=true)(J:froz v=true):ny lh sh (Q.run (St.mk .nil lh sh).get sh.length (Pv k g off m v e))=Cv lh sh k e g off v m:=by
 obtain⟨K,ob⟩:=e
 unfold Cv Pv
 by_cases N:K=g
 ·subst N
  cases ob with
  |none=>simp[Q.run,ny]
  |map ks U z=>simp[Q.run,ny]
  |cells cs I bx=>
   by_cases h:I≤off∧off+m≤cs.length
   ·have D:(decide (I≤off)&&decide (off+m≤cs.length))=true:=by simp[h.1,h.2]
    have WD:(bx&&Sp.S==Sp.L)=false:=by cases bx <;> rfl
    unfold iE
    simp only[if_true,D,WD,Bool.false_eq_true,if_false]
    rw[oS J]
    have O:(oC [] Sp.S k|| !noTup v||decide ((cellsOf v).length≠m))=false:=by simp[oC,F,H]
    simp only[Q.bind,O,Bool.false_eq_true,if_false,Q.run,ny]
    rw[if_pos ⟨trivial,F,H,h⟩]
    rfl
   grind [Bool.false_eq_true,Q.run,ny]
 grind [Q.run,ny]
theorem aob{k g off m:Nat}{v:T}(F:froz v=true):pg lh sh (.ptr .S k g off) v m=Cv lh sh k (jr sh k) g off v m:=by
 by_cases h:(cellsOf v).length=m
 ·cases D:noTup v with
  |false=>
   unfold pg tP
   have:(decide ((cellsOf v).length≠m)|| !noTup v)=true:=by simp[D]
   simp only[this,if_true,Q.run]
   unfold Cv
   grind
  |true=>
   unfold pg tP
   have:(decide ((cellsOf v).length≠m)|| !noTup v)=false:=by simp[h,D]
   simp only[this,Bool.false_eq_true,if_false]
   exact YV (jr sh k) h D F
 ·unfold pg tP
  have:(decide ((cellsOf v).length≠m)|| !noTup v)=true:=by simp[h]
  simp only[this,if_true,Q.run]
  unfold Cv
  grind
theorem KZ{k g D off m h:Nat}{cs:List T}{bx:Bool}{v:T}:Cv lh sh k ⟨D,.cells cs h bx⟩ g off v m=if D=g∧(cellsOf v).length=m∧noTup v=true∧h≤off∧off+m≤cs.length then some (lh,jO sh k ⟨g,.cells (splice cs off (cellsOf v)) h bx⟩)else none:=rfl
end
section
variable{E:Env}{call:p7}{n:Nat}{fr:Fr}{lh:iz ib}{sh:List ib}{ds:List (List Nat×be)}{jT:List FP}{u:List Nat}{d:Option Nat}
def sd:T→List (Sp×Nat)
 | .mp sp k _=> [(sp,k)]
 |_=> []
theorem Ud{sp:Sp}{k g:Nat}:sd (.mp sp k g)= [(sp,k)]:=rfl
theorem YW{h:Sp→Nat→ib}{D:Nat}{o:Option T}:(val o).log h D= []:=by cases o <;> rfl
theorem auN{h:EK}{m k:iD}{z:T}{D:Bool}:iQ E call n ((u,⟨d,.lk h m k z D,none⟩)::ds) jT ⟨fr,lh,sh⟩=
  if meets u jT ⟨false,sd (rd fr m),[]⟩=true then ke E call n ds (jT++ [⟨false,sd (rd fr m),[]⟩]) (ij E call n [⟨d,.lk h m k z D,none⟩] ⟨fr,lh,sh⟩)else none:=by
 refine uB fun H=> ?_
 obtain⟨I,Ck⟩:=F1 (d:=d.getD 0) (ρ:=(St.mk fr lh sh).rho) (op:= .lk h m k z D) rfl
 obtain⟨v,J,K,N⟩:=xO Ck rfl H
 obtain⟨rfl,F⟩:=Q.calm_run _ I K
 have O:(jk (d.getD 0) (St.mk fr lh sh).rho (.lk h m k z D)).log (St.mk fr lh sh).get sh.length=sd (rd fr m):=by
  rw[lG]
  grind [sd,jk,Q.log,YW]
 have:=N (by rw[F];simp[vW])
 rw[this,F,O];rfl
def YX:T→Bool
 | .mp .L .. =>true
 |_=>false
theorem YY{k g:Nat}:YX (.mp .L k g)=true:=nr rfl
theorem auO{F:EK}{m k v:iD}(V:YX (rd fr m)=true)(H:froz (rd fr v)=true):iQ E call n ((u,⟨none,.mu F m k v,none⟩)::ds) jT ⟨fr,lh,sh⟩=
  if meets u jT ⟨false,sd (rd fr m),sd (rd fr m)⟩=true then ke E call n ds (jT++ [⟨false,sd (rd fr m),sd (rd fr m)⟩]) (ij E call n [⟨none,.mu F m k v,none⟩] ⟨fr,lh,sh⟩)else none:=by
 refine uB fun I=> ?_
 cases IJ:rd fr m with
 |mp sp kk g=>
  cases sp with
  |S=>grind [YX]
  |L=>
   obtain⟨w,J,h,D⟩:=xO (q:= .rd .L kk (X3 kk g F (rd fr k) (rd fr v))) (by rfl) (by rw[lG];simp only[jk,IJ];rfl) I
   simp only[Q.run,Q.log,Q.asks,MD]at h D
   generalize a6 lh kk=e at h D
   obtain⟨K,ob⟩:=e
   unfold X3 at h D
   by_cases N:(decide (K=g)&&isKey F (rd fr k))=true
   ·simp only[N,if_true]at h D
    cases ob with
    |none=>simp[Q.run]at h
    |cells cs W bx=>simp[Q.run]at h
    |map ks X O=>
     cases O with
     |true=>simp[Q.run]at h
     |false=>
      simp only[]at h D
      unfold iE at h D
      rw[oS H]at h D
      simp only[Q.bind]at h D
      split at h
      ·rename_i q U
       simp only[oC,List.any_nil,Bool.false_eq_true,if_false,Q.run,Option.some.injEq,BR.val.injEq]at h
       obtain⟨rfl,rfl⟩:=h
       rw[U]at D
       simp only[oC,List.any_nil,Bool.false_eq_true,if_false]at D
       exact D rfl
      ·simp[Q.run]at h
   grind [Bool.false_eq_true,Q.run]
 |_=>grind [YX]
end
section
variable{E:Env}{call:p7}{n:Nat}{fr:Fr}{lh:iz ib}{sh:List ib}{ds:List (List Nat×be)}{jT:List FP}{d:Option Nat}
theorem YZ{F:Bool}{H sz bytes:Nat}{s x:T}{v:T}{D:List Up}{st:St}(hs:notS s=true)(h:(rP H sz bytes s x false F).run st.get st.sh.length=some (.val v D)):vW st D=true:=by
 unfold rP at h
 rw[jt]at h
 cases I:(jP sz x).run st.get st.sh.length with
 |none=>grind
 |some p=>
  rw[I]at h
  simp only[Option.bind_some]at h
  split at h
  ·split at h
   ·simp[Q.run]at h;rw[h.2];rfl
   ·simp[Q.run]at h;rw[h.2];rfl
   ·simp[Q.run]at h;rw[h.2];rfl
   ·simp[Q.run]at h
  ·split at h
   ·split at h
    ·simp[ot,Q.run]at h;rw[←h.2];rfl
    ·simp[Q.run]at h
   ·split at h
    ·simp[ot,Q.run]at h;rw[←h.2];rfl
    ·simp[Q.run]at h
   ·rename_i sp k g off len J
    cases sp with
    |S=>simp[notS]at hs
    |L=>
     split at h
     ·simp only[Q.run]at h
      split at h
      ·split at h
       ·split at h
        ·simp[Q.run]at h;rw[←h.2];rfl
        ·simp[Q.run]at h
       ·simp[Q.run]at h
      ·simp[Q.run]at h
     ·simp[Q.run]at h
   ·simp[Q.run]at h
def noU:List (List Nat×be)→Bool
 | []=>true
 |(u,_)::ds=>u.isEmpty&&noU ds
theorem Y0:noU []=true:=nr rfl
theorem Ue{o:be}{ds:List (List Nat×be)}:noU (([],o)::ds)=noU ds:=nr rfl
theorem IN: ∀(ds:List (List Nat×be)) (jT D:List FP) (st:St),noU ds=true→iQ E call n ds jT st=iQ E call n ds D st
 | [],_,_,_,_=>rfl
 |(u,o)::ds,jT,D,st,h=>by
  simp only[noU,Bool.and_eq_true,List.isEmpty_iff]at h
  obtain⟨rfl,h⟩:=h
  simp only[iQ,List.all_nil,if_true]
  cases jC E call o st with
  |none=>rfl
  |some fp=>
   simp only[]
   cases ja E call n o st with
   |none=>rfl
   |some s=>exact IN ds _ _ s h
end
end Go.Ev
