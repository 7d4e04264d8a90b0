/- A tree evaluator over the model, proved against it (part F): where it answers, the call returns that answer. Conditions: none beyond its theorems' own. -/
import Derived.Test.YtnkgnjecmfkcfaaGreatEvE
set_option linter.unusedSimpArgs false
set_option linter.unusedVariables false
namespace Go.Ev
open Go
theorem akQ{x:Bool}:froz (.b x)=true:=nr rfl
theorem akR{k:IntKind}{n:Int}:froz (.i k n)=true:=nr rfl
theorem akS{l:List Nat}:froz (.s l)=true:=nr rfl
theorem LB:froz .nilsl=true:=nr rfl
theorem acK{cs:List T}{n:Nat}{e:Bool}:froz (.sl cs n e)=true:=nr rfl
theorem Iz:froz .nilptr=true:=nr rfl
theorem acL{cs:List T}:froz (.vp cs)=true:=nr rfl
theorem LC:froz .nilmp=true:=nr rfl
theorem acM{a b:List T}:froz (.vm a b)=true:=nr rfl
theorem LD:froz .nilfn=true:=nr rfl
theorem IA{cs:List T}:froz (.agg cs)=cs.all froz1:=nr rfl
theorem Wi{cs:List T}:froz (.tup cs)=cs.all froz1:=nr rfl
theorem acN{f:Nat}{a c:List T}:froz (.fn f a c)=(a.all froz1&&c.all froz1):=nr rfl
theorem acO{x:Bool}:froz1 (.b x)=true:=nr rfl
theorem uY{k:IntKind}{n:Int}:froz1 (.i k n)=true:=nr rfl
theorem Fp{l:List Nat}:froz1 (.s l)=true:=nr rfl
theorem IB:froz1 .nilsl=true:=nr rfl
theorem Wj{cs:List T}{n:Nat}{e:Bool}:froz1 (.sl cs n e)=true:=nr rfl
theorem Fq:froz1 .nilptr=true:=nr rfl
theorem Wk{cs:List T}:froz1 (.vp cs)=true:=nr rfl
theorem IC:froz1 .nilmp=true:=nr rfl
theorem Wl{a b:List T}:froz1 (.vm a b)=true:=nr rfl
theorem ID:froz1 .nilfn=true:=nr rfl
theorem QN{cs:List T}:cellsOf (.agg cs)=cs:=nr rfl
theorem acP{x:Bool}:cellsOf (.b x)= [.b x]:=nr rfl
theorem acQ{k:IntKind}{n:Int}:cellsOf (.i k n)= [.i k n]:=nr rfl
theorem acR{l:List Nat}:cellsOf (.s l)= [.s l]:=nr rfl
theorem IE:cellsOf .nilsl= [.nilsl]:=nr rfl
theorem Wm{cs:List T}{n:Nat}{e:Bool}:cellsOf (.sl cs n e)= [.sl cs n e]:=nr rfl
theorem QO{sp:Sp}{a b c d e:Nat}:cellsOf (.isl sp a b c d e)= [.isl sp a b c d e]:=nr rfl
theorem QP{sp:Sp}{a b c:Nat}:cellsOf (.ptr sp a b c)= [.ptr sp a b c]:=nr rfl
theorem Wn{cs:List T}:cellsOf (.vp cs)= [.vp cs]:=nr rfl
theorem Fs:cellsOf .nilptr= [.nilptr]:=nr rfl
theorem Wo{sp:Sp}{a b:Nat}:cellsOf (.mp sp a b)= [.mp sp a b]:=nr rfl
theorem Wp{a b:List T}:cellsOf (.vm a b)= [.vm a b]:=nr rfl
theorem IF:cellsOf .nilmp= [.nilmp]:=nr rfl
theorem QQ{cs:List T}:noTup (.agg cs)=true:=nr rfl
theorem acS{x:Bool}:noTup (.b x)=true:=nr rfl
theorem acT{k:IntKind}{n:Int}:noTup (.i k n)=true:=nr rfl
theorem acU{l:List Nat}:noTup (.s l)=true:=nr rfl
theorem IG:noTup .nilsl=true:=nr rfl
theorem Wq{cs:List T}{n:Nat}{e:Bool}:noTup (.sl cs n e)=true:=nr rfl
theorem QR{sp:Sp}{a b c d e:Nat}:noTup (.isl sp a b c d e)=true:=nr rfl
theorem QS{sp:Sp}{a b c:Nat}:noTup (.ptr sp a b c)=true:=nr rfl
theorem Wr{cs:List T}:noTup (.vp cs)=true:=nr rfl
theorem Ft:noTup .nilptr=true:=nr rfl
theorem Ws{sp:Sp}{a b:Nat}:noTup (.mp sp a b)=true:=nr rfl
theorem Wt{a b:List T}:noTup (.vm a b)=true:=nr rfl
theorem II:noTup .nilmp=true:=nr rfl
theorem LF:notS .nilsl=true:=nr rfl
theorem acV{cs:List T}{n:Nat}{e:Bool}:notS (.sl cs n e)=true:=nr rfl
theorem Wu{a b c d e:Nat}:notS (.isl .L a b c d e)=true:=nr rfl
theorem acW{a b:Nat}:notS (.mp .L a b)=true:=nr rfl
theorem Wv:kU .nilsl=some 0:=nr rfl
theorem acX{cs:List T}{n:Nat}{e:Bool}:kU (.sl cs n e)=some n:=nr rfl
theorem Ww{sp:Sp}{a b c d e:Nat}:kU (.isl sp a b c d e)=some d:=nr rfl
theorem Wx:lenI .nilsl=some (.i .i64 0):=nr rfl
theorem acY{cs:List T}{n:Nat}{e:Bool}:lenI (.sl cs n e)=some (.i .i64 n):=nr rfl
theorem Wy{sp:Sp}{a b c d e:Nat}:lenI (.isl sp a b c d e)=some (.i .i64 d):=nr rfl
theorem Wz{x:Bool}:scalar (.b x)=true:=nr rfl
theorem WA{k:IntKind}{n:Int}:scalar (.i k n)=true:=nr rfl
theorem WB{l:List Nat}:scalar (.s l)=true:=nr rfl
theorem Fu:scalar .nilsl=true:=nr rfl
theorem QT{cs:List T}{n:Nat}{e:Bool}:scalar (.sl cs n e)=false:=nr rfl
theorem LG{cs:List T}:scalar (.agg cs)=false:=nr rfl
section
variable{lh:aD ah}{sh:List ah}{m g off k:Nat}{ag:Bool}
theorem akT{cs:List T}:ldV lh sh (.vp cs) m ag=Ev.part cs 0 m ag:=rfl
theorem av8:ldV lh sh (.ptr .L k g off) m ag=ldE (ab lh k) g off m ag:=rfl
theorem av9:ldV lh sh (.ptr .S k g off) m ag=ldE (aI sh k) g off m ag:=rfl
theorem akU{cs:List T}:faV (.vp cs) off=if off≤cs.length then some (.vp (cs.drop off))else none:=rfl
theorem acZ{sp:Sp}{o:Nat}:faV (.ptr sp k g o) off=some (.ptr sp k g (o+off)):=rfl
theorem WC{cs:List T}:abX (.agg cs) off m ag=Ev.part cs off m ag:=rfl
theorem ac0{cs:List T}:Fg (.vp cs)=some (.vp cs):=rfl
theorem WD{sp:Sp}{o:Nat}:Fg (.ptr sp k g o)=some (.ptr sp k g o):=rfl
theorem ac1{f:Nat}{a c:List T}:Fg (.fn f a c)=some (.fn f a c):=rfl
theorem WE{r:List T}:abZ (.tup r) m=r[m]? :=rfl
theorem ac2{l:List Nat}:NN (.s l)=some (.i .i64 l.length):=rfl
theorem akV{kk r:IntKind}{n:Int}:abU kk (.i r n)=some (.i kk (wr kk n)):=rfl
theorem oS{m k g r off len sz D:Nat}{lh:aD ah}{sh:List ah}{cs:List T}:VZ m lh sh k ⟨r,.cells cs D false⟩ g off len sz=if r=g∧off+len*sz≤cs.length then some (.sl ((cs.drop off).take (len*sz)) len false,[(.L,k,⟨g,.cells cs cs.length false⟩)])else none:=rfl
theorem ac3{k g D:Nat}{ks r:List T}{z:Bool}:mpV k ⟨D,.map ks r z⟩ g=if D=g then some (.vm ks r,[(.L,k,⟨g,.map ks r true⟩)])else none:=rfl
theorem DP{sz g r off len D:Nat}{cs:List T}:slE sz ⟨r,.cells cs D false⟩ g off len=if r=g∧off+len*sz≤cs.length then some (len,(cs.drop off).take (len*sz))else none:=rfl
theorem A9{g r off len sz D bytes F:Nat}{p:Nat×List T}{cs:List T}:QH lh k ⟨r,.cells cs F false⟩ g off len sz D bytes p=if D=sz∧off=0∧(len+p.1)*bytes≤roomy∧r=g∧len*sz=cs.length then some (.isl .L k (g+1) 0 (len+p.1) sz,je lh k ⟨g+1,.cells (cs++p.2) F false⟩)else none:=rfl
theorem Ba{d sz bytes n:Nat}{cs:List T}:A5 lh d sz bytes .nilsl (n+1,cs)=if(n+1)*bytes≤roomy then some (.isl .L d ((ab lh d).g+1) 0 (n+1) sz,je lh d ⟨(ab lh d).g+1,.cells cs 0 false⟩)else none:=by
 unfold A5;rw[if_neg (Nat.succ_ne_zero n)]
theorem ac4{d sz bytes n len:Nat}{cs KD:List T}:A5 lh d sz bytes (.sl KD len true) (n+1,cs)=if KD.length=len*sz∧(len+(n+1))*bytes≤roomy then some (.isl .L d ((ab lh d).g+1) 0 (len+(n+1)) sz,je lh d ⟨(ab lh d).g+1,.cells (KD++cs) 0 false⟩)else none:=by
 unfold A5;rw[if_neg (Nat.succ_ne_zero n)]
theorem IJ{d sz r bytes n g off len:Nat}{cs:List T}:A5 lh d sz bytes (.isl .L k g off len r) (n+1,cs)=QH lh k (ab lh k) g off len sz r bytes (n+1,cs):=by
 unfold A5;rw[if_neg (Nat.succ_ne_zero n)]
end
theorem iT{α:Type}{f:α→List T}{sz:Nat}(r: ∀x,(f x).length=sz): ∀xs:List α,(xs.flatMap f).length=xs.length*sz
 | []=>by simp
 |x::xs=>by simp[List.flatMap_cons,r,iT r xs,Nat.succ_mul,Nat.add_comm]
theorem xh{α:Type}{f:α→List T}{sz:Nat}(r: ∀x,(f x).length=sz): ∀(xs:List α) (k:Nat) (hk:k<xs.length),(xs.flatMap f).drop (k*sz)=f xs[k]++(xs.drop (k+1)).flatMap f
 | [],k,hk=>by simp at hk
 |x::xs,0,hk=>by grind
 |x::xs,k+1,hk=>by
  have h1:(k+1)*sz=(f x).length+k*sz:=by rw[r,Nat.succ_mul,Nat.add_comm]
  have h2:List.drop ((f x).length+k*sz) (f x)= []:=List.drop_eq_nil_of_le yv
  rw[List.flatMap_cons,h1,List.drop_append,h2,Nat.add_sub_cancel_left,xh r xs k (by simpa using hk)]
  rfl
def ints(xs:List Int):List T:=xs.map (T.i .i64)
theorem dX(xs:List Int):(ints xs).length=xs.length:=by simp[ints]
theorem lB(xs:List Int)(k:Nat)(hk:k<xs.length):(ints xs).drop k=T.i .i64 xs[k]::(ints xs).drop (k+1):=by
 rw[List.drop_eq_getElem_cons (by rw[dX];exact hk)];simp[ints]
def IsSl(v:T)(n:Nat)(cs:List T):Prop:=(v= .nilsl∧n=0∧cs= [])∨ ∃ex,v= .sl cs n ex
theorem IsSl.len{v:T}{n:Nat}{cs:List T}(h:IsSl v n cs):kU v=some n:=by
 rcases h with⟨rfl,rfl,_⟩|⟨ex,rfl⟩ <;> rfl
theorem IsSl.lenI{v:T}{n:Nat}{cs:List T}(h:IsSl v n cs):lenI v=some (.i .i64 (n:Int)):=acu h.len
theorem IsSl.froz1{v:T}{n:Nat}{cs:List T}(h:IsSl v n cs):froz1 v=true:=by
 rcases h with⟨rfl,_,_⟩|⟨ex,rfl⟩ <;> rfl
theorem IsSl.froz{v:T}{n:Nat}{cs:List T}(h:IsSl v n cs):froz v=true:=by
 rcases h with⟨rfl,_,_⟩|⟨ex,rfl⟩ <;> rfl
theorem IsSl.cells{v:T}{n:Nat}{cs:List T}(h:IsSl v n cs):cellsOf v= [v]:=by
 rcases h with⟨rfl,_,_⟩|⟨ex,rfl⟩ <;> rfl
theorem IsSl.noTup{v:T}{n:Nat}{cs:List T}(h:IsSl v n cs):noTup v=true:=by
 rcases h with⟨rfl,_,_⟩|⟨ex,rfl⟩ <;> rfl
theorem IsSl.ia{v:T}{n sz k:Nat}{cs:List T}{kk:IntKind}(h:IsSl v n cs)(hc:cs.length=n*sz)(hk:k<n):iaV v (.i kk (k:Int)) sz=some (.vp (cs.drop (k*sz))):=by
 rcases h with⟨rfl,rfl,_⟩|⟨ex,rfl⟩
 ·omega
 grind [cO,Int.toNat_natCast,Nat.mul_le_mul_right]
theorem IsSl.slC{v:T}{n sz:Nat}{cs:List T}{lh:aD ah}{sh:List ah}(h:IsSl v n cs)(hc:cs.length=n*sz):slC lh sh sz v=some (n,cs):=by
 rcases h with⟨rfl,rfl,rfl⟩|⟨ex,rfl⟩
 ·rfl
 ·rw[Fk,if_pos hc]
end Go.Ev
namespace Go.Ev
open Go
section
variable(E:Env)(n:Nat)(b:ak)(fr:Fr)(lh:aD ah)(sh:List ah)
noncomputable def mY:Fr:=match DC E n (.loop b) ⟨fr,lh,sh⟩with|some (_,st)=>st.fr|none=>fr
noncomputable def im:aD ah:=match DC E n (.loop b) ⟨fr,lh,sh⟩with|some (_,st)=>st.lh|none=>lh
noncomputable def iH:List ah:=match DC E n (.loop b) ⟨fr,lh,sh⟩with|some (_,st)=>st.sh|none=>sh
end
section
variable{E:Env}{n:Nat}{b:ak}{fr:Fr}{lh:aD ah}{sh:List ah}{o:Out}
theorem WG{s:Nat}(h:(ch (.loop b)).contains s=false):aa (mY E n b fr lh sh) s=aa fr s:=by
 unfold mY
 cases r:DC E n (.loop b) ⟨fr,lh,sh⟩with
 |none=>rfl
 |some p=>obtain⟨o,st⟩:=p;exact fu r s h
def eC:List Nat→Nat
 | []=>0
 |s::r=>(1 <<< s) ||| eC r
theorem Fv(s:Nat): ∀l:List Nat,s∈l→(eC l).testBit s=true
 | [],h=>by simp at h
 |x::xs,h=>by
  rw[eC,Nat.testBit_or]
  rcases List.mem_cons.1 h with h|h
  ·grind
  ·rw[Fv s xs h];simp
theorem DQ{s:Nat}(h:(eC (ch (.loop b)) >>> s)%2=0):aa (mY E n b fr lh sh) s=aa fr s:=by
 refine WG ?_
 cases hc:(ch (.loop b)).contains s with
 |false=>rfl
 |true=>
  have h1:=Fv s _ (List.contains_iff_mem.1 hc)
  grind [Nat.testBit]
theorem QU{P:Fr→aD ah→List ah→Prop}(h: ∃r D F,DC E n (.loop b) ⟨fr,lh,sh⟩=some (o,⟨r,D,F⟩)∧P r D F):
  DC E n (.loop b) ⟨fr,lh,sh⟩=some (o,⟨mY E n b fr lh sh,im E n b fr lh sh,iH E n b fr lh sh⟩)∧P (mY E n b fr lh sh) (im E n b fr lh sh) (iH E n b fr lh sh):=by
 grind [mY,im,iH]
end
end Go.Ev
namespace Go.Ev
open Go
theorem fU(m:Nat)(D:m≤62)(a:Int):Ev.bin .and (.i .i64 a) (.i .i64 (2 ^ m-1))=some (.i .i64 (a%2 ^ m)):=by
 have h2:(2:Int) ^ m=((2 ^ m:Nat):Int):=by norm_cast
 have K:0<2 ^ m:=Nat.two_pow_pos m
 have F:2 ^ m≤2 ^ 62:=Nat.pow_le_pow_right yv D
 have WH:(BitVec.ofInt 64 ((2:Int) ^ m-1)).toNat=2 ^ m-1:=by
  grind
 have r:(BitVec.ofInt 64 a &&& BitVec.ofInt 64 ((2:Int) ^ m-1)).toNat=(a%2 ^ m).toNat:=by
  rw[BitVec.toNat_and,WH,Nat.and_two_pow_sub_one_eq_mod,BitVec.toNat_ofInt]
  have H:0≤a%((2 ^ 64:Nat):Int):=Int.emod_nonneg _ yv
  have h4:(a%((2 ^ 64:Nat):Int))%((2 ^ m:Nat):Int)=a%((2 ^ m:Nat):Int):=Int.emod_emod_of_dvd a (by
   have:(2 ^ m:Nat)∣2 ^ 64:=Nat.pow_dvd_pow 2 yv
   exact Int.natCast_dvd_natCast.2 this)
  have h5:(((a%((2 ^ 64:Nat):Int)).toNat%2 ^ m:Nat):Int)=a%((2 ^ m:Nat):Int):=by
   grind
  grind
 have N:(IntKind.i64).bits=64:=rfl
 simp only[Ev.bin,if_true,l8]
 have I:0≤a%2 ^ m:=by rw[h2];exact Int.emod_nonneg _ yv
 have J:a%2 ^ m<2 ^ m:=by rw[h2];exact Int.emod_lt_of_pos _ yv
 grind [IntKind.wrap]
section
variable{a:Int}
theorem and_1:Ev.bin .and (.i .i64 a) (.i .i64 1)=some (.i .i64 (a%2)):=fU 1 yv a
theorem and_3:Ev.bin .and (.i .i64 a) (.i .i64 3)=some (.i .i64 (a%4)):=fU 2 yv a
theorem awa:Ev.bin .and (.i .i64 a) (.i .i64 7)=some (.i .i64 (a%8)):=fU 3 yv a
theorem akW:Ev.bin .and (.i .i64 a) (.i .i64 15)=some (.i .i64 (a%16)):=fU 4 yv a
theorem akX:Ev.bin .and (.i .i64 a) (.i .i64 31)=some (.i .i64 (a%32)):=fU 5 yv a
theorem akY:Ev.bin .and (.i .i64 a) (.i .i64 63)=some (.i .i64 (a%64)):=fU 6 yv a
theorem ac5:Ev.bin .and (.i .i64 a) (.i .i64 127)=some (.i .i64 (a%128)):=fU 7 yv a
theorem ac6:Ev.bin .and (.i .i64 a) (.i .i64 255)=some (.i .i64 (a%256)):=fU 8 yv a
theorem ac7:Ev.bin .and (.i .i64 a) (.i .i64 511)=some (.i .i64 (a%512)):=fU 9 yv a
theorem WI:Ev.bin .and (.i .i64 a) (.i .i64 1023)=some (.i .i64 (a%1024)):=fU 10 yv a
theorem QV:Ev.bin .and (.i .i64 a) (.i .i64 65535)=some (.i .i64 (a%65536)):=fU 16 yv a
theorem NZ{k k':IntKind}{b:Int}:Ev.bin .shr (.i k a) (.i k' b)=if b<0 then none else some (.i k (a.fdiv (2 ^ (min b.toNat k.bits)))):=by
 simp only[Ev.bin,An]
theorem eY{k':IntKind}{b:Nat}(h:b≤64):Ev.bin .shr (.i .i64 a) (.i k' (b:Int))=some (.i .i64 (a/2 ^ b)):=by
 rw[NZ,if_neg yv,Int.toNat_natCast]
 have:min b (IntKind.i64).bits=b:=Nat.min_eq_left h
 grind
theorem awb{k':IntKind}:Ev.bin .shr (.i .i64 a) (.i k' 3)=some (.i .i64 (a/8)):=eY (b:=3) yv
theorem awc{k':IntKind}:Ev.bin .shr (.i .i64 a) (.i k' 4)=some (.i .i64 (a/16)):=eY (b:=4) yv
theorem awd{k':IntKind}:Ev.bin .shr (.i .i64 a) (.i k' 5)=some (.i .i64 (a/32)):=eY (b:=5) yv
theorem awe{k':IntKind}:Ev.bin .shr (.i .i64 a) (.i k' 2)=some (.i .i64 (a/4)):=eY (b:=2) yv
theorem awf{k':IntKind}:Ev.bin .shr (.i .i64 a) (.i k' 0)=some (.i .i64 a):=by have:=eY (a:=a) (k':=k') (b:=0) yv;simpa using this
theorem awg{k':IntKind}:Ev.bin .shr (.i .i64 a) (.i k' 6)=some (.i .i64 (a/64)):=eY (b:=6) yv
theorem awh{k':IntKind}:Ev.bin .shr (.i .i64 a) (.i k' 8)=some (.i .i64 (a/256)):=eY (b:=8) yv
theorem akZ{k':IntKind}:Ev.bin .shr (.i .i64 a) (.i k' 14)=some (.i .i64 (a/16384)):=eY (b:=14) yv
theorem ak0{k':IntKind}:Ev.bin .shr (.i .i64 a) (.i k' 16)=some (.i .i64 (a/65536)):=eY (b:=16) yv
theorem ak1{k':IntKind}:Ev.bin .shr (.i .i64 a) (.i k' 18)=some (.i .i64 (a/262144)):=eY (b:=18) yv
theorem ak2{k':IntKind}:Ev.bin .shr (.i .i64 a) (.i k' 20)=some (.i .i64 (a/1048576)):=eY (b:=20) yv
theorem ak3{k':IntKind}:Ev.bin .shr (.i .i64 a) (.i k' 21)=some (.i .i64 (a/2097152)):=eY (b:=21) yv
theorem ak4{k':IntKind}:Ev.bin .shr (.i .i64 a) (.i k' 24)=some (.i .i64 (a/16777216)):=eY (b:=24) yv
theorem ak5{k':IntKind}:Ev.bin .shr (.i .i64 a) (.i k' 25)=some (.i .i64 (a/33554432)):=eY (b:=25) yv
end
theorem mz{n:Int}(h:0≤n∧n≤18446744073709551615):wr .u64 n=n:=by grind [wr,lo,hi]
theorem ep{a b:Int}(h:0≤a):a.tmod b=a%b:=Int.tmod_eq_emod_of_nonneg h
end Go.Ev
namespace Go.Ev
open Go
theorem Bb(x:FP):apart x fO=true:=by
 obtain⟨a,r,w⟩:=x
 simp[apart,eD,fO,GV]
theorem LH(x:FP):apart fO x=true:=by
 obtain⟨a,r,w⟩:=x
 simp[apart,eD,fO,GV]
theorem WJ{r D:List (Sp×Nat)}:apart ⟨false,r,[]⟩ ⟨false,D,[]⟩=true:=A7 ⟨rfl,rfl⟩ ⟨rfl,rfl⟩
theorem WK{r D w w':List (Sp×Nat)}:apart ⟨false,r,w⟩ ⟨false,D,w'⟩=(eD w D&&eD w w'&&eD r w'):=by
 simp[apart]
theorem LI{r:List (Sp×Nat)}:eD [] r=true:=rfl
theorem IK{x:Sp×Nat}{xs r:List (Sp×Nat)}:eD (x::xs) r=(!r.contains x&&eD xs r):=rfl
theorem ac8{x:Sp×Nat}:([]:List (Sp×Nat)).contains x=false:=rfl
theorem WL{a c:Sp}{b d:Nat}{ys:List (Sp×Nat)}:((c,d)::ys).contains (a,b)=((decide (a=c)&&decide (b=d))||ys.contains (a,b)):=by
 rw[List.contains_cons]
 have:((a,b)==(c,d))=(decide (a=c)&&decide (b=d)):=by
  cases a <;> cases c <;> by_cases h:b=d <;> simp[h]
 rw[this]
def dc:mh→Bool
 | .mv _| .pick .. | .bin .. | .eq .. | .un .. | .cvi .. | .b2s _| .mkfn .. | .build .. | .slS .. | .fa .. | .fld .. | .ia .. | .iaA .. | .ixS .. | .ixA .. | .ext .. | .lenS _| .lenV _| .lenC _| .mm .. | .nck _=>true
 | .slV _ _ _ _ none=>true
 |_=>false
theorem ac9{x:aP}:dc (.mv x)=true:=nr rfl
theorem QW{c a b:aP}:dc (.pick c a b)=true:=nr rfl
theorem WM{o:BinOp}{x y:aP}:dc (.bin o x y)=true:=nr rfl
theorem ada{g:Bool}{k:EK}{x y:aP}:dc (.eq g k x y)=true:=nr rfl
theorem adb{o:UnOp}{x:aP}:dc (.un o x)=true:=nr rfl
theorem WN{k:IntKind}{x:aP}:dc (.cvi k x)=true:=nr rfl
theorem jW{x:aP}:dc (.b2s x)=true:=nr rfl
theorem QX{f:Nat}{a c:List aP}:dc (.mkfn f a c)=true:=nr rfl
theorem LJ{z:List T}{r:List (Nat×Nat×aP)}:dc (.build z r)=true:=nr rfl
theorem WO{x:aP}{l h:Option aP}:dc (.slS x l h)=true:=nr rfl
theorem ade{x:aP}{o:Nat}:dc (.fa x o)=true:=nr rfl
theorem WQ{x:aP}{o m:Nat}{g:Bool}:dc (.fld x o m g)=true:=nr rfl
theorem adf{x y:aP}{m:Nat}:dc (.ia x y m)=true:=nr rfl
theorem WR{x y:aP}{m k:Nat}:dc (.iaA x y m k)=true:=nr rfl
theorem WS{x y:aP}:dc (.ixS x y)=true:=nr rfl
theorem WT{x y:aP}{m k:Nat}{g:Bool}:dc (.ixA x y m k g)=true:=nr rfl
theorem WU{x:aP}{j:Nat}:dc (.ext x j)=true:=nr rfl
theorem QY{x:aP}:dc (.lenS x)=true:=nr rfl
theorem QZ{x:aP}:dc (.lenV x)=true:=nr rfl
theorem Q0{m:Nat}:dc (.lenC m)=true:=nr rfl
theorem adg{g:Bool}{as:List aP}:dc (.mm g as)=true:=nr rfl
theorem WV{x:aP}:dc (.nck x)=true:=nr rfl
theorem WW{m:Nat}{x:aP}{l h:Option aP}:dc (.slV m x l h none)=true:=nr rfl
def Q.plain:Q Am→Prop
 | .ret (.val _ r)=>r= []
 | .fail=>True
 | .rd _ _ _=>False
 | .new _=>False
theorem Q.plain_run{h:Sp→Nat→ah}{nx:Nat}: ∀(q:Q Am),q.plain→ ∀{v:T} {r:List Up},q.run h nx=some (.val v r)→r= []∧q.asks h nx=false∧q.log h nx= []
 | .ret (.val _ _),hc,v,r,hr=>by simp[Q.run]at hr;obtain⟨rfl,rfl⟩:=hr;exact⟨hc,rfl,rfl⟩
 | .fail,hc,v,r,hr=>by simp[Q.run]at hr
 | .rd sp k f,hc,v,r,hr=>hc.elim
 | .new f,hc,v,r,hr=>hc.elim
theorem gk{o:Option T}:(val o).plain:=by cases o <;> simp[val,Q.plain]
theorem WX{d:Nat}{ρ:aP→T}{op:mh}(h:dc op=true):(bz d ρ op).plain∧bB ρ op=none:=by
 refine⟨?_,by cases op <;> first|rfl|(simp[dc]at h)⟩
 cases op with
 |mv x=>exact rfl
 |pick c a b=>simp only[bz];split <;> simp[Q.plain]
 |bin op x y=>exact gk
 |eq neg k x y=>exact gk
 |un op x=>exact gk
 |cvi k x=>simp only[bz];split <;> simp[Q.plain]
 |b2s x=>simp only[bz];repeat' split
         all_goals trivial
 |mkfn f a c=>exact rfl
 |build z F=>
  simp only[bz]
  by_cases D:(F.all fun p=>decide ((cellsOf (ρ p.2.2)).length=p.2.1)&&noTup (ρ p.2.2))=true
  ·rw[if_pos D];exact gk
  ·rw[if_neg D];trivial
 |slS x l h=>
  simp only[bz]
  split
  ·split
   ·split <;> simp[Q.plain]
   ·trivial
  ·trivial
 |fa x off=>
  simp only[bz]
  split
  ·split <;> simp[Q.plain]
  ·exact rfl
  ·trivial
 |fld x off m ag=>
  simp only[bz]
  split
  ·exact gk
  ·trivial
 |ia x r sz=>
  simp only[bz]
  split
  ·split <;> simp[Q.plain]
  ·split <;> simp[Q.plain]
  ·trivial
 |iaA x r len sz=>
  simp only[bz]
  split
  ·split <;> simp[Q.plain]
  ·split <;> simp[Q.plain]
  ·trivial
 |ixS x r=>
  simp only[bz]
  split
  ·split <;> simp[Q.plain]
  ·trivial
 |ixA x r len sz ag=>
  simp only[bz]
  split
  ·split
   ·exact gk
   ·trivial
  ·trivial
 |ext x j=>
  simp only[bz]
  split
  ·exact gk
  ·trivial
 |lenS x=>simp only[bz];split <;> simp[Q.plain]
 |lenV x=>exact gk
 |lenC m=>exact rfl
 |mm b as=>
  simp only[bz]
  split
  ·exact gk
  ·trivial
 |nck x=>simp only[bz];split <;> simp[Q.plain]
 |slV sz x l h H=>
  cases H with
  |some m=>simp[dc]at h
  |none=>
   simp only[bz]
   split
   ·trivial
   ·split
    ·unfold xO
     split
     ·split <;> simp[Q.bind,Q.plain]
     ·split <;> simp[Q.bind,Q.plain]
     ·split <;> simp[Q.bind,Q.plain]
     ·trivial
    ·rename_i I;exact absurd I xv
    ·trivial
 |_=>simp[dc]at h
def ke(E:Env)(call:jP)(n:Nat)(ds:List (List Nat×aF))(br:List FP)(x:Option St):Option St:=x.bind (aK E call n ds br)
def meets(u:List Nat)(br:List FP)(fp:FP):Bool:=u.all fun i=>apart (aH ⟨true,[],[]⟩ br i) fp
section
variable{E:Env}{call:jP}{n:Nat}{fr:Fr}{lh:aD ah}{sh:List ah}{ds:List (List Nat×aF)}{br:List FP}{u:List Nat}{d:Option Nat}
theorem adh{st:St}:ke E call n ds br (some st)=aK E call n ds br st:=rfl
theorem adi:ke E call n ds br none=none:=rfl
theorem ak6{c:Prop}[Decidable c]{x y:Option St}:ke E call n ds br (if c then x else y)=if c then ke E call n ds br x else ke E call n ds br y:=by split <;> rfl
theorem Q1{fp:FP}:meets [] br fp=true:=rfl
theorem LK{i:Nat}{fp:FP}:meets (i::u) br fp=(apart (aH ⟨true,[],[]⟩ br i) fp&&meets u br fp):=rfl
theorem qw:meets u br fO=true:=by
 unfold meets
 rw[List.all_eq_true]
 intro i _
 exact Bb _
theorem Q2{st:St}:DC E n (.draws ds) st=(aK E (ae E) n ds [] st).map fun r=>(.nrm,r):=It
theorem mZ{o:aF}{fp:FP}{st:St}(h:bn E call n o st≠none→bN E call o st=some fp):
  aK E call n ((u,o)::ds) br st=if meets u br fp=true then ke E call n ds (br++ [fp]) (ai E call n [o] st)else none:=by
 simp only[aK]
 unfold meets ke
 cases r:bn E call n o st with
 |none=>
  have h1:ai E call n [o] st=none:=by simp only[ai,r]
  rw[h1]
  cases bN E call o st with
  |none=>simp
  |some D=>simp
 |some s=>
  have h1:ai E call n [o] st=some s:=by simp only[ai,r]
  rw[h1,h (by rw[r];simp)]
  rfl
theorem pS{op:mh}{st:St}{q:Q Am}(H:bB st.rho op=none)(J:bz (d.getD 0) st.rho op=q)(F:bn E call n ⟨d,op,none⟩ st≠none):
  ∃v D,q.run st.get st.sh.length=some (.val v D)∧((q.asks st.get st.sh.length||inB st D)=true→bN E call ⟨d,op,none⟩ st=some ⟨q.asks st.get st.sh.length,q.log st.get st.sh.length,cR D⟩):=by
 subst J
 unfold bn at F
 simp only[H]at F
 cases I:(bz (d.getD 0) st.rho op).run st.get st.sh.length with
 |none=>simp only[I]at F;exact absurd rfl F
 |some r=>
  obtain⟨v,D⟩:=r
  refine⟨v,D,rfl,fun K=> ?_⟩
  unfold bN
  simp only[H,I]
  rw[if_pos K]
theorem ak7{op:mh}(H:dc op=true):aK E call n ((u,⟨d,op,none⟩)::ds) br ⟨fr,lh,sh⟩=ke E call n ds (br++ [fO]) (ai E call n [⟨d,op,none⟩] ⟨fr,lh,sh⟩):=by
 rw[mZ (fp:=fO),qw,if_pos rfl]
 intro D
 obtain⟨I,J⟩:=WX (d:=d.getD 0) (ρ:=(St.mk fr lh sh).rho) H
 unfold bn at D
 unfold bN
 simp only[J]at D ⊢
 cases F:(bz (d.getD 0) (St.mk fr lh sh).rho op).run (St.mk fr lh sh).get sh.length with
 |none=>simp only[F]at D;exact absurd rfl D
 |some r=>
  obtain⟨v,K⟩:=r
  obtain⟨rfl,N,O⟩:=Q.plain_run _ I F
  simp only[N,O,inB,List.all_nil,Bool.or_true,if_true,cR,List.map_nil]
  rfl
def mA:T→List (Sp×Nat)
 | .ptr sp k _ _=> [(sp,k)]
 |_=> []
theorem WY{cs:List T}:mA (.vp cs)= []:=rfl
theorem Q3{sp:Sp}{k g off:Nat}:mA (.ptr sp k g off)= [(sp,k)]:=rfl
theorem Q.log_bind{α β:Type}{h:Sp→Nat→ah}{nx:Nat}{f:α→Q β}(r: ∀a,(f a).log h nx= []): ∀q:Q α,(q.bind f).log h nx=q.log h nx
 | .ret a=>r a
 | .fail=>rfl
 | .rd sp k g=>by show(sp,k)::((g (h sp k)).bind f).log h nx=(sp,k)::(g (h sp k)).log h nx;rw[Q.log_bind r (g (h sp k))]
 | .new g=>Q.log_bind r (g nx)
theorem aB8{x:aP}{m:Nat}{ag:Bool}:aK E call n ((u,⟨d,.ld x m ag,none⟩)::ds) br ⟨fr,lh,sh⟩=
  if meets u br ⟨false,mA (rd fr x),[]⟩=true then ke E call n ds (br++ [⟨false,mA (rd fr x),[]⟩]) (ai E call n [⟨d,.ld x m ag,none⟩] ⟨fr,lh,sh⟩)else none:=by
 refine mZ ?_
 intro D
 obtain⟨I,J⟩:=Fo (d:=d.getD 0) (ρ:=(St.mk fr lh sh).rho) (op:= .ld x m ag) rfl
 unfold bn at D
 unfold bN
 simp only[J]at D ⊢
 cases H:(bz (d.getD 0) (St.mk fr lh sh).rho (.ld x m ag)).run (St.mk fr lh sh).get sh.length with
 |none=>simp only[H]at D;exact absurd rfl D
 |some r=>
  obtain⟨v,K⟩:=r
  obtain⟨rfl,N⟩:=Q.calm_run _ I H
  have O:(bz (d.getD 0) (St.mk fr lh sh).rho (.ld x m ag)).log (St.mk fr lh sh).get sh.length=mA (rd fr x):=by
   rw[dm]
   simp only[bz]
   rw[Q.log_bind (fun a=>rfl)]
   unfold EO mA
   cases hx:rd fr x <;> try rfl
   ·simp only[];generalize Ev.part _ _ _ _=o;cases o <;> rfl
   ·rename_i sp k g off
    simp only[Q.log]
    congr 1
    generalize (St.mk fr lh sh).get sp k=e
    obtain⟨U,ob⟩:=e
    by_cases F:U=g
    ·cases ob with
     |cells cs V bx=>simp only[F,if_true];generalize Ev.part _ _ _ _=o;cases o <;> rfl
     |_=>simp only[F,if_true];rfl
    ·simp only[F,if_false];rfl
  simp only[N,O,inB,List.all_nil,Bool.or_true,if_true,cR,List.map_nil]
theorem DR{keep:Bool}{m:Nat}{h:Sp→Nat→ah}{nx:Nat}: ∀(ts:List T),ts.all froz=true→(bh (fz keep (m+2)) ts).log h nx= []
 | [],_=>rfl
 |t::ts,r=>by
  simp only[List.all_cons,Bool.and_eq_true]at r
  simp only[bh,jI r.1,Q.bind]
  rw[Q.log_bind (fun a=>rfl),DR ts r.2]
theorem aji{f:Nat}{af:aj}{as:List aP}(H:E.fn f=some af)(I:af.eff=false)(J:af.own=none)(F:(as.map (rd fr)).all froz=true):
  aK E call n ((u,⟨d,.callf f as,none⟩)::ds) br ⟨fr,lh,sh⟩=ke E call n ds (br++ [fO]) (ai E call n [⟨d,.callf f as,none⟩] ⟨fr,lh,sh⟩):=by
 rw[mZ (fp:=fO),qw,if_pos rfl]
 intro D
 unfold bn at D
 unfold bN
 have K:bB (St.mk fr lh sh).rho (.callf f as)=some (some (f,as.map (rd fr))):=by rw[dm];rfl
 simp only[K]at D ⊢
 rw[HT H I J F]at D
 unfold eE
 have h1:(bh (fz af.eff aJ) (as.map (rd fr))).run (St.mk fr lh sh).get sh.length=some (as.map (rd fr),[]):=by
  have:=uU (lh:=lh) (sh:=sh) (keep:=af.eff) F
  unfold yU at this
  rw[lN];exact this
 simp only[H]
 rw[h1]
 simp only[inB,List.all_nil,Bool.not_true,Bool.false_eq_true,if_false,I,J]
 cases hc:call f (as.map (rd fr)) []with
 |none=>rw[hc]at D;exact absurd rfl D
 |some r=>
  simp only[cR,List.map_nil,ite_self]
  have:(bh (fz false aJ) (as.map (rd fr))).log (St.mk fr lh sh).get sh.length= []:=DR _ F
  rw[this];rfl
theorem awi{z:List T}{len:Nat}{r:List (Nat×aP)}(I:(r.map fun p=>rd fr p.2).all froz=true):
  aK E call n ((u,⟨d,.bsl z len r,none⟩)::ds) br ⟨fr,lh,sh⟩=ke E call n ds (br++ [fO]) (ai E call n [⟨d,.bsl z len r,none⟩] ⟨fr,lh,sh⟩):=by
 rw[mZ (fp:=fO),qw,if_pos rfl]
 intro D
 have h1:bh (fz false aJ) (r.map fun p=>rd fr p.2)= .ret (r.map (fun p=>rd fr p.2),[]):=by
  have: ∀(ts:List T),ts.all froz=true→bh (fz false aJ) ts= .ret (ts,[]):=by
   intro ts
   induction ts with
   |nil=>intro _;rfl
   |cons t ts ih=>
    intro F
    simp only[List.all_cons,Bool.and_eq_true]at F
    rw[bh,ih F.2]
    unfold aJ
    rw[jI F.1];rfl
  exact this _ I
 obtain⟨v,J,hr,H⟩:=pS (q:=if((r.map fun p=>rd fr p.2).all fun v=>decide ((cellsOf v).length=z.length)&&noTup v)=true then(match kG (repl z len) ((r.map fun p=>p.1*z.length).zip ((r.map fun p=>rd fr p.2).map cellsOf))with|some cs=>Q.ret (.val (.sl cs len true) [])|none=> .fail)else .fail) (by rfl) (by rw[dm];simp only[bz];rw[h1];rfl) D
 split at hr
 ·split at hr
  ·simp[Q.run]at hr
   obtain⟨rfl,rfl⟩:=hr
   rename_i K _ _ N
   rw[if_pos K,N]at H
   exact H rfl
  ·simp[Q.run]at hr
 ·simp[Q.run]at hr
theorem adj{r:Nat}{z:List T}:aK E call n ((u,⟨some r,.alloc z false,none⟩)::ds) br ⟨fr,lh,sh⟩=
  if meets u br ⟨false,[(.L,r)],[(.L,r)]⟩=true then ke E call n ds (br++ [⟨false,[(.L,r)],[(.L,r)]⟩]) (ai E call n [⟨some r,.alloc z false,none⟩] ⟨fr,lh,sh⟩)else none:=
 mZ fun _=>rfl
theorem ak8{r:Nat}{z:List T}{bytes:Nat}{x:aP}:aK E call n ((u,⟨some r,.mksl z bytes x false,none⟩)::ds) br ⟨fr,lh,sh⟩=
  if meets u br ⟨false,[(.L,r)],[(.L,r)]⟩=true then ke E call n ds (br++ [⟨false,[(.L,r)],[(.L,r)]⟩]) (ai E call n [⟨some r,.mksl z bytes x false,none⟩] ⟨fr,lh,sh⟩)else none:=by
 refine mZ fun D=> ?_
 cases I:asNat (rd fr x)with
 |none=>
  obtain⟨v,F,hr,H⟩:=pS (q:= .fail) (by rfl) (by rw[dm];simp only[bz,I]) D
  simp[Q.run]at hr
 |some k=>
  obtain⟨v,F,hr,H⟩:=pS (q:=if k*bytes≤roomy&&k≤roomy then jh r false (.cells (repl z k) 0 (Sz z)) (fun sp k' g=> .isl sp k' g 0 k z.length)else .fail) (by rfl) (by rw[dm];simp only[bz,I];rfl) D
  split at hr
  ·rename_i J
   rw[if_pos J]at H
   simp[jh,Q.run]at hr
   obtain⟨rfl,rfl⟩:=hr
   exact H rfl
  ·simp[Q.run]at hr
def adk:T→Bool
 | .ptr .L .. =>true
 |_=>false
theorem WZ{k g off:Nat}:adk (.ptr .L k g off)=true:=nr rfl
theorem aB9{x v:aP}{m:Nat}(hx:adk (rd fr x)=true)(K:froz (rd fr v)=true):aK E call n ((u,⟨none,.st x v m,none⟩)::ds) br ⟨fr,lh,sh⟩=
  if meets u br ⟨false,mA (rd fr x),mA (rd fr x)⟩=true then ke E call n ds (br++ [⟨false,mA (rd fr x),mA (rd fr x)⟩]) (ai E call n [⟨none,.st x v m,none⟩] ⟨fr,lh,sh⟩)else none:=by
 refine mZ fun F=> ?_
 cases D:rd fr x with
 |ptr sp k g off=>
  cases sp with
  |S=>rw[D]at hx;simp[adk]at hx
  |L=>
   by_cases J:(decide ((cellsOf (rd fr v)).length≠m)|| !noTup (rd fr v))=true
   ·obtain⟨w,I,hr,r⟩:=pS (q:= .fail) (by rfl) (by rw[dm];simp only[bz,nw,D];rw[if_pos J]) F
    simp[Q.run]at hr
   ·obtain⟨w,I,hr,r⟩:=pS (q:= .rd .L k (ab4 k g off m (rd fr v))) (by rfl) (by rw[dm];simp only[bz,nw,D];rw[if_neg J];rfl) F
    simp only[Q.run,Q.log,Q.asks,NL]at hr r
    generalize ab lh k=e at hr r
    obtain⟨N,ob⟩:=e
    unfold ab4 at hr r
    by_cases H:N=g
    ·cases ob with
     |none=>simp[H,Q.run]at hr
     |map ks U z=>simp[H,Q.run]at hr
     |cells cs V bx=>
      simp only[H,if_true]at hr r
      split at hr
      ·rename_i hc
       rw[if_pos hc]at r
       cases bx with
       |true=>
        simp[Q.run]at hr
        obtain⟨rfl,rfl⟩:=hr
        exact r rfl
       |false=>
        unfold aJ at hr r
        simp only[Bool.false_and,Bool.false_eq_true,if_false]at hr r
        rw[jI K]at hr r
        simp only[Q.bind]at hr r
        split at hr
        ·simp[Q.run]at hr
        ·rename_i O
         rw[if_neg O]at r
         simp[Q.run]at hr
         obtain⟨rfl,rfl⟩:=hr
         exact r rfl
      ·simp[Q.run]at hr
    ·simp only[H,if_false,Q.run]at hr
     cases hr
 |_=>rw[D]at hx;simp[adk]at hx
theorem N5{op:mh}{j:Nat}{w:Bool}(h:aa fr j= .b w):aK E call n ((u,⟨d,op,some (j,w)⟩)::ds) br ⟨fr,lh,sh⟩=aK E call n ((u,⟨d,op,none⟩)::ds) br ⟨fr,lh,sh⟩:=by
 simp only[aK,bN,bn,h,if_true]
theorem W0{op:mh}{j:Nat}(h:aa fr j= .b true):aK E call n ((u,⟨d,op,some (j,true)⟩)::ds) br ⟨fr,lh,sh⟩=aK E call n ((u,⟨d,op,none⟩)::ds) br ⟨fr,lh,sh⟩:=N5 h
theorem W1{op:mh}{j:Nat}(h:aa fr j= .b false):aK E call n ((u,⟨d,op,some (j,false)⟩)::ds) br ⟨fr,lh,sh⟩=aK E call n ((u,⟨d,op,none⟩)::ds) br ⟨fr,lh,sh⟩:=N5 h
theorem Fw{op:mh}{j:Nat}{w:Bool}(r:CJ n d)(h:aa fr j= .b (!w)∨aa fr j=aQ):aK E call n ((u,⟨d,op,some (j,w)⟩)::ds) br ⟨fr,lh,sh⟩=aK E call n ds (br++ [fO]) ⟨r8 fr d aQ,lh,sh⟩:=by
 have D:bN E call ⟨d,op,some (j,w)⟩ ⟨fr,lh,sh⟩=some fO:=by
  unfold bN
  rcases h with h|h
  ·simp only[h];rw[if_neg (by cases w <;> simp)]
  ·simp only[h,aQ]
 rw[mZ (fp:=fO) (fun _=>D),qw,if_pos rfl]
 rcases h with h|h
 ·rw[A6 r h];rfl
 ·rw[NS r h];rfl
theorem W2{r:Nat}{op:mh}{j:Nat}(D:r<n)(h:aa fr j= .b false):aK E call n ((u,⟨some r,op,some (j,true)⟩)::ds) br ⟨fr,lh,sh⟩=aK E call n ds (br++ [fO]) ⟨cH fr r aQ,lh,sh⟩:=Fw (d:=some r) D (Or.inl h)
theorem W3{r:Nat}{op:mh}{j:Nat}(D:r<n)(h:aa fr j= .b true):aK E call n ((u,⟨some r,op,some (j,false)⟩)::ds) br ⟨fr,lh,sh⟩=aK E call n ds (br++ [fO]) ⟨cH fr r aQ,lh,sh⟩:=Fw (d:=some r) D (Or.inl h)
theorem W4{r:Nat}{op:mh}{j:Nat}{w:Bool}(D:r<n)(h:aa fr j=aQ):aK E call n ((u,⟨some r,op,some (j,w)⟩)::ds) br ⟨fr,lh,sh⟩=aK E call n ds (br++ [fO]) ⟨cH fr r aQ,lh,sh⟩:=Fw (d:=some r) D (Or.inr h)
end
end Go.Ev
namespace Go.Ev
open Go
def fzW(m:Nat)(lh:aD ah)(sh:List ah)(keep:Bool)(v:T):Option (T×List Up):=(fz keep (m+1) v).run (St.mk .nil lh sh).get sh.length
def tf(m:Nat)(lh:aD ah)(sh:List ah)(keep:Bool)(r:List T):Option (List T×List Up):=(bh (fz keep (m+1)) r).run (St.mk .nil lh sh).get sh.length
section
variable{m:Nat}{lh:aD ah}{sh:List ah}{keep:Bool}
theorem xi{v:T}(h:froz1 v=true):fzW m lh sh keep v=some (v,[]):=by unfold fzW;rw[qu h];rfl
theorem Fx{k g off len sz:Nat}:fzW m lh sh keep (.isl .L k g off len sz)=VZ m lh sh k (ab lh k) g off len sz:=by
 cases keep <;> exact avH (ab lh k)
theorem ak9{k g:Nat}:fzW m lh sh keep (.mp .L k g)=mpV k (ab lh k) g:=by
 cases keep <;> exact mpQ (ab lh k)
theorem W5:tf m lh sh keep []=some ([],[]):=rfl
theorem Q4{v:T}{r:List T}:tf m lh sh keep (v::r)=(fzW m lh sh keep v).bind fun p=>(tf m lh sh keep r).bind fun q=>some (p.1::q.1,p.2++q.2):=by
 unfold tf fzW
 rw[bh,bt]
 congr 1
 funext p
 rw[bt]
 rfl
theorem Bc{r:List T}(h:r.all froz1=true):tf m lh sh keep r=some (r,[]):=by
 unfold tf;rw[iy r h];rfl
theorem W6{cs:List T}:fzV lh sh keep (.agg cs)=(tf 6 lh sh keep cs).map fun q=>(.agg q.1,q.2):=ab2
theorem W7{cs:List T}:fzV lh sh keep (.tup cs)=(tf 6 lh sh keep cs).map fun q=>(.tup q.1,q.2):=ab3
theorem W8{cs:List T}:fzW (m+1) lh sh keep (.agg cs)=(tf m lh sh keep cs).map fun q=>(.agg q.1,q.2):=by
 unfold fzW tf
 rw[Fh,bt]
 cases (bh (fz keep (m+1)) cs).run (St.mk .nil lh sh).get sh.length <;> rfl
theorem W9{r:Bool}{v:T}:QL lh sh r [v]=(fzV lh sh r v).map fun p=>(p.1,((St.mk .nil lh sh).ups p.2).sh):=rfl
theorem Q5{r:Bool}{v u:T}{D:List T}:QL lh sh r (v::u::D)=(fzV lh sh r (.tup (v::u::D))).map fun p=>(p.1,((St.mk .nil lh sh).ups p.2).sh):=rfl
end
theorem awj{x y:List Nat}:pP (.one .str) (.s x) (.s y)=some (decide (x=y)):=by
 simp only[pP,dU,Bool.beq_eq_decide_eq]
theorem awk{k:IntKind}{x y:Int}:pP (.one .int) (.i k x) (.i k y)=some (decide (x=y)):=by
 simp_all[pP,dU,Bool.beq_eq_decide_eq]
theorem ala{k:IntKind}{x y:Int}{s t:List Nat}:pP (.flat [.int,.str]) (.agg [.i k x,.s s]) (.agg [.i k y,.s t])=some (decide (x=y∧s=t)):=by
 simp only[pP,bV,dU,if_true,Bool.beq_eq_decide_eq]
 grind
theorem yj{x:List Nat}:isKey (.one .str) (.s x)=true:=nr rfl
theorem aib{k:IntKind}{x:Int}:isKey (.one .int) (.i k x)=true:=nr rfl
theorem Xa{k:IntKind}{x:Int}{s:List Nat}:isKey (.flat [.int,.str]) (.agg [.i k x,.s s])=true:=nr rfl
def awl(r:Option Bool)(D:Option (Option Nat)):Option (Option Nat):=
 match r with
 |some true=>some (some 0)
 |some false=>D.map fun r=>r.map (· +1)
 |none=>none
theorem Q6{kk:EK}{k x:T}{xs:List T}:gq kk k (x::xs)=awl (pP kk k x) (gq kk k xs):=rfl
def lkF(F:List T)(z:T)(D:Bool)(r:Option (Option Nat)):Option T:=
 match r with
 |some (some i)=>F[i]?.map fun v=>if D=true then .tup [v,.b true]else v
 |some none=>some (if D=true then .tup [z,.b false]else z)
 |none=>none
theorem N6{kk:EK}{ks r:List T}{k z:T}{D:Bool}(h:isKey kk k=true):iu kk ks r k z D=lkF r z D (gq kk k ks):=by
 grind [iu,lkF]
theorem IL{r:List T}{z:T}{D:Bool}{i:Nat}:lkF r z D (some (some i))=r[i]?.map fun v=>if D=true then .tup [v,.b true]else v:=rfl
def alb(ks D:List T)(k v:T)(r:Option (Option Nat)):Option (List T×List T):=
 match r with
 |some (some i)=>some (ks.set i k,D.set i v)
 |some none=>some (ks++ [k],D++ [v])
 |none=>none
theorem adl{kk:EK}{ks r:List T}{k v:T}:lF kk k v ks r=alb ks r k v (gq kk k ks):=by
 grind [lF,alb]
theorem Q7{ks r:List T}{k v:T}:alb ks r k v (some none)=some (ks++ [k],r++ [v]):=rfl
theorem bW{g r:Nat}{ks D:List T}{z:Bool}{F:EK}{k u:T}{H:Bool}:lkE ⟨r,.map ks D z⟩ g F k u H=if r=g then iu F ks D k u H else none:=rfl
theorem oU{lh:aD ah}{kk g D:Nat}{ks F:List T}{r:EK}{k v:T}:muE lh kk ⟨D,.map ks F false⟩ g r k v=if D=g∧isKey r k=true then(lF r k v ks F).map fun q=>je lh kk ⟨g,.map q.1 q.2 false⟩else none:=rfl
end Go.Ev
namespace Go.Ev
open Go
section
variable{E:Env}{call:jP}{n:Nat}{fr:Fr}{lh:aD ah}{sh:List ah}{os:List aF}{d:Nat}
theorem Xb{z:List T}(r:d<n):ai E call n (⟨some d,.alloc z true,none⟩::os) ⟨fr,lh,sh⟩=ai E call n os ⟨cH fr d (.ptr .S sh.length 1 0),lh,bI sh sh.length ⟨1,.cells z 0 true⟩⟩:=by
 rw[kI (by rfl) (show CJ n (some d)from r)];rfl
theorem Xc(r:d<n):ai E call n (⟨some d,.mkmap true,none⟩::os) ⟨fr,lh,sh⟩=ai E call n os ⟨cH fr d (.mp .S sh.length 1),lh,bI sh sh.length ⟨1,.map [] [] false⟩⟩:=by
 rw[kI (by rfl) (show CJ n (some d)from r)];rfl
theorem Q8{e:ah}{l:List ah}:aI (e::l) 0=e:=rfl
theorem rL{e:ah}{l:List ah}{k:Nat}:aI (e::l) (k+1)=aI l k:=rfl
theorem Xd{k:Nat}:aI [] k=eH:=rfl
theorem Xe{v:ah}:bI [] 0 v= [v]:=rfl
theorem Q9{e v:ah}{l:List ah}:bI (e::l) 0 v=v::l:=rfl
theorem rM{e v:ah}{l:List ah}{k:Nat}:bI (e::l) (k+1) v=e::bI l k v:=rfl
def Bd(lh:aD ah)(sh:List ah)(k:Nat)(e:ah)(g off:Nat)(v:T)(m:Nat):Option (aD ah×List ah):=
 match e with
 |⟨D,.cells cs r bx⟩=>if D=g∧(cellsOf v).length=m∧noTup v=true∧r≤off∧off+m≤cs.length then some (lh,bI sh k ⟨g,.cells (splice cs off (cellsOf v)) r bx⟩)else none
 |_=>none
def IM(k g off m:Nat)(v:T)(e:ah):Q Am:=if e.g=g then match e.ob with
     | .cells cs r bx=>if r≤off&&off+m≤cs.length then
         (if bx&&Sp.S== .L then .ret (.val aQ [(Sp.S,k,⟨g,.cells (splice cs off (cellsOf v)) r bx⟩)])
         else(fz (bx&&Sp.S== .S) aJ v).bind fun p=>if jv p.2 .S k|| !noTup p.1||(cellsOf p.1).length≠m then .fail else .ret (.val aQ (p.2++ [(Sp.S,k,⟨g,.cells (splice cs off (cellsOf p.1)) r bx⟩)])))
       else .fail
     |_=> .fail
    else .fail
theorem adm{k g off m:Nat}{v:T}(e:ah)(h1:(cellsOf v).length=m)(h2:noTup v=true)(H:froz v=true):gV lh sh (Q.run (St.mk .nil lh sh).get sh.length (IM k g off m v e))=Bd lh sh k e g off v m:=by
 obtain⟨I,ob⟩:=e
 unfold Bd IM
 by_cases J:I=g
 ·subst J
  cases ob with
  |none=>simp[Q.run,gV]
  |map ks N z=>simp[Q.run,gV]
  |cells cs F bx=>
   by_cases r:F≤off∧off+m≤cs.length
   ·have D:(decide (F≤off)&&decide (off+m≤cs.length))=true:=by simp[r.1,r.2]
    have La:(bx&&Sp.S==Sp.L)=false:=by cases bx <;> rfl
    unfold aJ
    simp only[if_true,D,La,Bool.false_eq_true,if_false]
    rw[jI H]
    have K:(jv [] Sp.S k|| !noTup v||decide ((cellsOf v).length≠m))=false:=by simp[jv,h1,h2]
    simp only[Q.bind,K,Bool.false_eq_true,if_false,Q.run,gV]
    rw[if_pos ⟨trivial,h1,h2,r⟩]
    rfl
   grind [Bool.false_eq_true,Q.run,gV]
 grind [Q.run,gV]
theorem awm{k g off m:Nat}{v:T}(r:froz v=true):stV lh sh (.ptr .S k g off) v m=Bd lh sh k (aI sh k) g off v m:=by
 by_cases h1:(cellsOf v).length=m
 ·cases h2:noTup v with
  |false=>
   unfold stV nw
   have:(decide ((cellsOf v).length≠m)|| !noTup v)=true:=by simp[h2]
   simp only[this,if_true,Q.run]
   unfold Bd
   grind
  |true=>
   unfold stV nw
   have:(decide ((cellsOf v).length≠m)|| !noTup v)=false:=by simp[h1,h2]
   simp only[this,Bool.false_eq_true,if_false]
   exact adm (aI sh k) h1 h2 r
 ·unfold stV nw
  have:(decide ((cellsOf v).length≠m)|| !noTup v)=true:=by simp[h1]
  simp only[this,if_true,Q.run]
  unfold Bd
  grind
theorem dY{k g D off m r:Nat}{cs:List T}{bx:Bool}{v:T}:Bd lh sh k ⟨D,.cells cs r bx⟩ g off v m=if D=g∧(cellsOf v).length=m∧noTup v=true∧r≤off∧off+m≤cs.length then some (lh,bI sh k ⟨g,.cells (splice cs off (cellsOf v)) r bx⟩)else none:=rfl
end
section
variable{E:Env}{call:jP}{n:Nat}{fr:Fr}{lh:aD ah}{sh:List ah}{ds:List (List Nat×aF)}{br:List FP}{u:List Nat}{d:Option Nat}
def mB:T→List (Sp×Nat)
 | .mp sp k _=> [(sp,k)]
 |_=> []
theorem Xf{sp:Sp}{k g:Nat}:mB (.mp sp k g)= [(sp,k)]:=rfl
theorem Xg{a b:List T}:mB (.vm a b)= []:=rfl
theorem adn{h:Sp→Nat→ah}{nx:Nat}{o:Option T}:(val o).log h nx= []:=by cases o <;> rfl
theorem aCb{r:EK}{m k:aP}{z:T}{D:Bool}:aK E call n ((u,⟨d,.lk r m k z D,none⟩)::ds) br ⟨fr,lh,sh⟩=
  if meets u br ⟨false,mB (rd fr m),[]⟩=true then ke E call n ds (br++ [⟨false,mB (rd fr m),[]⟩]) (ai E call n [⟨d,.lk r m k z D,none⟩] ⟨fr,lh,sh⟩)else none:=by
 refine mZ fun F=> ?_
 obtain⟨I,J⟩:=Fo (d:=d.getD 0) (ρ:=(St.mk fr lh sh).rho) (op:= .lk r m k z D) rfl
 obtain⟨v,K,hr,N⟩:=pS J rfl F
 obtain⟨rfl,H⟩:=Q.calm_run _ I hr
 have O:(bz (d.getD 0) (St.mk fr lh sh).rho (.lk r m k z D)).log (St.mk fr lh sh).get sh.length=mB (rd fr m):=by
  rw[dm]
  grind [mB,bz,Q.log,adn]
 have:=N (by rw[H];simp[inB])
 rw[this,H,O];rfl
def ado:T→Bool
 | .mp .L .. =>true
 |_=>false
theorem adp{k g:Nat}:ado (.mp .L k g)=true:=nr rfl
theorem aCc{D:EK}{m k v:aP}(hx:ado (rd fr m)=true)(I:froz (rd fr v)=true):aK E call n ((u,⟨none,.mu D m k v,none⟩)::ds) br ⟨fr,lh,sh⟩=
  if meets u br ⟨false,mB (rd fr m),mB (rd fr m)⟩=true then ke E call n ds (br++ [⟨false,mB (rd fr m),mB (rd fr m)⟩]) (ai E call n [⟨none,.mu D m k v,none⟩] ⟨fr,lh,sh⟩)else none:=by
 refine mZ fun F=> ?_
 cases H:rd fr m with
 |mp sp kk g=>
  cases sp with
  |S=>grind [ado]
  |L=>
   obtain⟨w,J,hr,r⟩:=pS (q:= .rd .L kk (ab8 kk g D (rd fr k) (rd fr v))) (by rfl) (by rw[dm];simp only[bz,H];rfl) F
   simp only[Q.run,Q.log,Q.asks,NL]at hr r
   generalize ab lh kk=e at hr r
   obtain⟨K,ob⟩:=e
   unfold ab8 at hr r
   by_cases N:(decide (K=g)&&isKey D (rd fr k))=true
   ·simp only[N,if_true]at hr r
    cases ob with
    |none=>simp[Q.run]at hr
    |cells cs V bx=>simp[Q.run]at hr
    |map ks W O=>
     cases O with
     |true=>simp[Q.run]at hr
     |false=>
      simp only[]at hr r
      unfold aJ at hr r
      rw[jI I]at hr r
      simp only[Q.bind]at hr r
      split at hr
      ·rename_i q U
       simp only[jv,List.any_nil,Bool.false_eq_true,if_false,Q.run,Option.some.injEq,Am.val.injEq]at hr
       obtain⟨rfl,rfl⟩:=hr
       rw[U]at r
       simp only[jv,List.any_nil,Bool.false_eq_true,if_false]at r
       exact r rfl
      ·simp[Q.run]at hr
   grind [Bool.false_eq_true,Q.run]
 |_=>grind [ado]
end
section
variable{E:Env}{call:jP}{n:Nat}{fr:Fr}{lh:aD ah}{sh:List ah}{ds:List (List Nat×aF)}{br:List FP}{d:Option Nat}
theorem N8{D:Bool}{F sz bytes:Nat}{s x:T}{v:T}{r:List Up}{st:St}(hs:notS s=true)(h:(jO F sz bytes s x false D).run st.get st.sh.length=some (.val v r)):inB st r=true:=by
 unfold jO at h
 rw[bt]at h
 cases hx:(cm sz x).run st.get st.sh.length with
 |none=>grind
 |some p=>
  rw[hx]at h
  simp only[Option.bind_some]at h
  split at h
  ·split at h
   ·simp[Q.run]at h;rw[h.2];rfl
   ·simp[Q.run]at h;rw[h.2];rfl
   ·simp[Q.run]at h;rw[h.2];rfl
   ·simp[Q.run]at h
  ·split at h
   ·split at h
    ·simp[jh,Q.run]at h;rw[←h.2];rfl
    ·simp[Q.run]at h
   ·split at h
    ·simp[jh,Q.run]at h;rw[←h.2];rfl
    ·simp[Q.run]at h
   ·rename_i sp k g off len H
    cases sp with
    |S=>simp[notS]at hs
    |L=>
     split at h
     ·simp only[Q.run]at h
      split at h
      ·split at h
       ·split at h
        ·simp[Q.run]at h;rw[←h.2];rfl
        ·simp[Q.run]at h
       ·simp[Q.run]at h
      ·simp[Q.run]at h
     ·simp[Q.run]at h
   ·simp[Q.run]at h
def SF:List (List Nat×aF)→Bool
 | []=>true
 |(u,_)::ds=>u.isEmpty&&SF ds
theorem adq:SF []=true:=nr rfl
theorem Xh{o:aF}{ds:List (List Nat×aF)}:SF (([],o)::ds)=SF ds:=nr rfl
theorem Be: ∀(ds:List (List Nat×aF)) (br r:List FP) (st:St),SF ds=true→aK E call n ds br st=aK E call n ds r st
 | [],_,_,_,_=>rfl
 |(u,o)::ds,br,r,st,h=>by
  simp only[SF,Bool.and_eq_true,List.isEmpty_iff]at h
  obtain⟨rfl,h⟩:=h
  simp only[aK,List.all_nil,if_true]
  cases bN E call o st with
  |none=>rfl
  |some fp=>
   simp only[]
   cases bn E call n o st with
   |none=>rfl
   |some s=>exact Be ds _ _ s h
theorem alc{r:Bool}{sz bytes:Nat}{s x:aP}(hs:notS (rd fr s)=true)(H:SF ds=true):aK E call n (([],⟨d,.app sz bytes s x false r,none⟩)::ds) br ⟨fr,lh,sh⟩=
  ke E call n ds (br++ [fO]) (ai E call n [⟨d,.app sz bytes s x false r,none⟩] ⟨fr,lh,sh⟩):=by
 rw[mZ (fp:=(bN E call ⟨d,.app sz bytes s x false r,none⟩ ⟨fr,lh,sh⟩).getD fO)]
 ·show ke _ _ _ _ _ _=_
  unfold ke
  cases ai E call n [⟨d,.app sz bytes s x false r,none⟩] ⟨fr,lh,sh⟩with
  |none=>rfl
  |some s=>grind [Be]
 ·intro D
  obtain⟨v,F,hr,I⟩:=pS (q:=jO (d.getD 0) sz bytes (rd fr s) (rd fr x) false r) (by rfl) (by rw[dm];rfl) D
  grind [N8]
end
theorem tg(a:ak){E:Env}{n:Nat}{st:St}:DC E n (.loop a) st=andThen (DC E n a st) (DC E n (.loop a)):=rJ
end Go.Ev
