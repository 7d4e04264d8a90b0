/- A tree evaluator over the model, proved against it (part F): where it answers, the call returns that answer. Conditions: none beyond its theorems' own. -/
import Derived.Test.YtcpceiclnbmgiaaGreatEvE
set_option linter.unusedSimpArgs false
set_option linter.unusedVariables false
namespace Go.Ev
open Go
theorem alO{x:Bool}:froz (.b x)=true:=nr rfl
theorem alP{k:IntKind}{n:Int}:froz (.i k n)=true:=nr rfl
theorem alQ{l:List Nat}:froz (.s l)=true:=nr rfl
theorem LH:froz .nilsl=true:=nr rfl
theorem adX{cs:List T}{n:Nat}{e:Bool}:froz (.sl cs n e)=true:=nr rfl
theorem IJ:froz .nilptr=true:=nr rfl
theorem adY{cs:List T}:froz (.vp cs)=true:=nr rfl
theorem LI:froz .nilmp=true:=nr rfl
theorem adZ{a b:List T}:froz (.vm a b)=true:=nr rfl
theorem LJ:froz .nilfn=true:=nr rfl
theorem IK{cs:List T}:froz (.agg cs)=cs.all froz1:=nr rfl
theorem Wq{cs:List T}:froz (.tup cs)=cs.all froz1:=nr rfl
theorem ad0{f:Nat}{a c:List T}:froz (.fn f a c)=(a.all froz1&&c.all froz1):=nr rfl
theorem ad1{x:Bool}:froz1 (.b x)=true:=nr rfl
theorem uW{k:IntKind}{n:Int}:froz1 (.i k n)=true:=nr rfl
theorem FY{l:List Nat}:froz1 (.s l)=true:=nr rfl
theorem IL:froz1 .nilsl=true:=nr rfl
theorem Wr{cs:List T}{n:Nat}{e:Bool}:froz1 (.sl cs n e)=true:=nr rfl
theorem FZ:froz1 .nilptr=true:=nr rfl
theorem Ws{cs:List T}:froz1 (.vp cs)=true:=nr rfl
theorem IM:froz1 .nilmp=true:=nr rfl
theorem Wt{a b:List T}:froz1 (.vm a b)=true:=nr rfl
theorem IN:froz1 .nilfn=true:=nr rfl
theorem QG{cs:List T}:cellsOf (.agg cs)=cs:=nr rfl
theorem ad2{x:Bool}:cellsOf (.b x)= [.b x]:=nr rfl
theorem ad3{k:IntKind}{n:Int}:cellsOf (.i k n)= [.i k n]:=nr rfl
theorem ad4{l:List Nat}:cellsOf (.s l)= [.s l]:=nr rfl
theorem IP:cellsOf .nilsl= [.nilsl]:=nr rfl
theorem Wu{cs:List T}{n:Nat}{e:Bool}:cellsOf (.sl cs n e)= [.sl cs n e]:=nr rfl
theorem QH{sp:Sp}{a b c d e:Nat}:cellsOf (.isl sp a b c d e)= [.isl sp a b c d e]:=nr rfl
theorem QI{sp:Sp}{a b c:Nat}:cellsOf (.ptr sp a b c)= [.ptr sp a b c]:=nr rfl
theorem Wv{cs:List T}:cellsOf (.vp cs)= [.vp cs]:=nr rfl
theorem F0:cellsOf .nilptr= [.nilptr]:=nr rfl
theorem Ww{sp:Sp}{a b:Nat}:cellsOf (.mp sp a b)= [.mp sp a b]:=nr rfl
theorem Wx{a b:List T}:cellsOf (.vm a b)= [.vm a b]:=nr rfl
theorem IQ:cellsOf .nilmp= [.nilmp]:=nr rfl
theorem QJ{cs:List T}:noTup (.agg cs)=true:=nr rfl
theorem ad5{x:Bool}:noTup (.b x)=true:=nr rfl
theorem ad6{k:IntKind}{n:Int}:noTup (.i k n)=true:=nr rfl
theorem ad7{l:List Nat}:noTup (.s l)=true:=nr rfl
theorem IS:noTup .nilsl=true:=nr rfl
theorem Wy{cs:List T}{n:Nat}{e:Bool}:noTup (.sl cs n e)=true:=nr rfl
theorem QK{sp:Sp}{a b c d e:Nat}:noTup (.isl sp a b c d e)=true:=nr rfl
theorem QL{sp:Sp}{a b c:Nat}:noTup (.ptr sp a b c)=true:=nr rfl
theorem Wz{cs:List T}:noTup (.vp cs)=true:=nr rfl
theorem F1:noTup .nilptr=true:=nr rfl
theorem WA{sp:Sp}{a b:Nat}:noTup (.mp sp a b)=true:=nr rfl
theorem WB{a b:List T}:noTup (.vm a b)=true:=nr rfl
theorem IU:noTup .nilmp=true:=nr rfl
theorem LK:notS .nilsl=true:=nr rfl
theorem ad8{cs:List T}{n:Nat}{e:Bool}:notS (.sl cs n e)=true:=nr rfl
theorem WC{a b c d e:Nat}:notS (.isl .L a b c d e)=true:=nr rfl
theorem ad9{a b:Nat}:notS (.mp .L a b)=true:=nr rfl
theorem WD:lF .nilsl=some 0:=nr rfl
theorem aea{cs:List T}{n:Nat}{e:Bool}:lF (.sl cs n e)=some n:=nr rfl
theorem WE{sp:Sp}{a b c d e:Nat}:lF (.isl sp a b c d e)=some d:=nr rfl
theorem WG:lenI .nilsl=some (.i .i64 0):=nr rfl
theorem aeb{cs:List T}{n:Nat}{e:Bool}:lenI (.sl cs n e)=some (.i .i64 n):=nr rfl
theorem WH{sp:Sp}{a b c d e:Nat}:lenI (.isl sp a b c d e)=some (.i .i64 d):=nr rfl
theorem WI{x:Bool}:scalar (.b x)=true:=nr rfl
theorem WJ{k:IntKind}{n:Int}:scalar (.i k n)=true:=nr rfl
theorem WK{l:List Nat}:scalar (.s l)=true:=nr rfl
theorem F2:scalar .nilsl=true:=nr rfl
theorem QM{cs:List T}{n:Nat}{e:Bool}:scalar (.sl cs n e)=false:=nr rfl
theorem LL{cs:List T}:scalar (.agg cs)=false:=nr rfl
section
variable{lh:aB ah}{sh:List ah}{m g off k:Nat}{ag:Bool}
theorem alR{cs:List T}:ldV lh sh (.vp cs) m ag=Ev.part cs 0 m ag:=rfl
theorem axI:ldV lh sh (.ptr .L k g off) m ag=ldE (ab lh k) g off m ag:=rfl
theorem axJ:ldV lh sh (.ptr .S k g off) m ag=ldE (aE sh k) g off m ag:=rfl
theorem alS{cs:List T}:faV (.vp cs) off=if off≤cs.length then some (.vp (cs.drop off))else none:=rfl
theorem aec{sp:Sp}{o:Nat}:faV (.ptr sp k g o) off=some (.ptr sp k g (o+off)):=rfl
theorem WL{cs:List T}:ada (.agg cs) off m ag=Ev.part cs off m ag:=rfl
theorem aed{cs:List T}:FO (.vp cs)=some (.vp cs):=rfl
theorem WM{sp:Sp}{o:Nat}:FO (.ptr sp k g o)=some (.ptr sp k g o):=rfl
theorem aee{f:Nat}{a c:List T}:FO (.fn f a c)=some (.fn f a c):=rfl
theorem WN{r:List T}:ade (.tup r) m=r[m]? :=rfl
theorem aef{l:List Nat}:NR (.s l)=some (.i .i64 l.length):=rfl
theorem alT{kk r:IntKind}{n:Int}:ac7 kk (.i r n)=some (.i kk (wr kk n)):=rfl
theorem po{m k g r off len sz wm:Nat}{lh:aB ah}{sh:List ah}{cs:List T}:Qx m lh sh k ⟨r,.cells cs wm false⟩ g off len sz=if r=g∧off+len*sz≤cs.length then some (.sl ((cs.drop off).take (len*sz)) len false,[(.L,k,⟨g,.cells cs cs.length false⟩)])else none:=rfl
theorem aeg{k g D:Nat}{ks r:List T}{z:Bool}:mpV k ⟨D,.map ks r z⟩ g=if D=g then some (.vm ks r,[(.L,k,⟨g,.map ks r true⟩)])else none:=rfl
theorem D1{sz g r off len wm:Nat}{cs:List T}:slE sz ⟨r,.cells cs wm false⟩ g off len=if r=g∧off+len*sz≤cs.length then some (len,(cs.drop off).take (len*sz))else none:=rfl
theorem BD{g r off len sz D bytes wm:Nat}{p:Nat×List T}{cs:List T}:QB lh k ⟨r,.cells cs wm false⟩ g off len sz D bytes p=if D=sz∧off=0∧(len+p.1)*bytes≤roomy∧r=g∧len*sz=cs.length then some (.isl .L k (g+1) 0 (len+p.1) sz,iK lh k ⟨g+1,.cells (cs++p.2) wm false⟩)else none:=rfl
theorem uX{d sz bytes n:Nat}{cs:List T}:By lh d sz bytes .nilsl (n+1,cs)=if(n+1)*bytes≤roomy then some (.isl .L d ((ab lh d).g+1) 0 (n+1) sz,iK lh d ⟨(ab lh d).g+1,.cells cs 0 false⟩)else none:=by
 unfold By;rw[if_neg (Nat.succ_ne_zero n)]
theorem aeh{d sz bytes n len:Nat}{cs KK:List T}:By lh d sz bytes (.sl KK len true) (n+1,cs)=if KK.length=len*sz∧(len+(n+1))*bytes≤roomy then some (.isl .L d ((ab lh d).g+1) 0 (len+(n+1)) sz,iK lh d ⟨(ab lh d).g+1,.cells (KK++cs) 0 false⟩)else none:=by
 unfold By;rw[if_neg (Nat.succ_ne_zero n)]
theorem IV{d sz r bytes n g off len:Nat}{cs:List T}:By lh d sz bytes (.isl .L k g off len r) (n+1,cs)=QB lh k (ab lh k) g off len sz r bytes (n+1,cs):=by
 unfold By;rw[if_neg (Nat.succ_ne_zero n)]
end
theorem jA{α:Type}{f:α→List T}{sz:Nat}(r: ∀x,(f x).length=sz): ∀xs:List α,(xs.flatMap f).length=xs.length*sz
 | []=>by simp
 |x::xs=>by simp[List.flatMap_cons,r,jA r xs,Nat.succ_mul,Nat.add_comm]
theorem wV{α:Type}{f:α→List T}{sz:Nat}(r: ∀x,(f x).length=sz): ∀(xs:List α) (k:Nat) (hk:k<xs.length),(xs.flatMap f).drop (k*sz)=f xs[k]++(xs.drop (k+1)).flatMap f
 | [],k,hk=>by simp at hk
 |x::xs,0,hk=>by grind
 |x::xs,k+1,hk=>by
  have h1:(k+1)*sz=(f x).length+k*sz:=by rw[r,Nat.succ_mul,Nat.add_comm]
  have h2:List.drop ((f x).length+k*sz) (f x)= []:=List.drop_eq_nil_of_le zO
  rw[List.flatMap_cons,h1,List.drop_append,h2,Nat.add_sub_cancel_left,wV r xs k (by simpa using hk)]
  rfl
def ints(xs:List Int):List T:=xs.map (T.i .i64)
theorem cD(xs:List Int):(ints xs).length=xs.length:=by simp[ints]
theorem iw(xs:List Int)(k:Nat)(hk:k<xs.length):(ints xs).drop k=T.i .i64 xs[k]::(ints xs).drop (k+1):=by
 rw[List.drop_eq_getElem_cons (by rw[cD];exact hk)];simp[ints]
def IsSl(v:T)(n:Nat)(cs:List T):Prop:=(v= .nilsl∧n=0∧cs= [])∨ ∃ex,v= .sl cs n ex
theorem IsSl.len{v:T}{n:Nat}{cs:List T}(h:IsSl v n cs):lF v=some n:=by
 rcases h with⟨rfl,rfl,_⟩|⟨ex,rfl⟩ <;> rfl
theorem IsSl.lenI{v:T}{n:Nat}{cs:List T}(h:IsSl v n cs):lenI v=some (.i .i64 (n:Int)):=adG h.len
theorem IsSl.froz1{v:T}{n:Nat}{cs:List T}(h:IsSl v n cs):froz1 v=true:=by
 rcases h with⟨rfl,_,_⟩|⟨ex,rfl⟩ <;> rfl
theorem IsSl.froz{v:T}{n:Nat}{cs:List T}(h:IsSl v n cs):froz v=true:=by
 rcases h with⟨rfl,_,_⟩|⟨ex,rfl⟩ <;> rfl
theorem IsSl.cells{v:T}{n:Nat}{cs:List T}(h:IsSl v n cs):cellsOf v= [v]:=by
 rcases h with⟨rfl,_,_⟩|⟨ex,rfl⟩ <;> rfl
theorem IsSl.noTup{v:T}{n:Nat}{cs:List T}(h:IsSl v n cs):noTup v=true:=by
 rcases h with⟨rfl,_,_⟩|⟨ex,rfl⟩ <;> rfl
theorem IsSl.ia{v:T}{n sz k:Nat}{cs:List T}{kk:IntKind}(h:IsSl v n cs)(hc:cs.length=n*sz)(hk:k<n):dV v (.i kk (k:Int)) sz=some (.vp (cs.drop (k*sz))):=by
 rcases h with⟨rfl,rfl,_⟩|⟨ex,rfl⟩
 ·omega
 grind [di,Int.toNat_natCast,Nat.mul_le_mul_right]
theorem IsSl.slC{v:T}{n sz:Nat}{cs:List T}{lh:aB ah}{sh:List ah}(h:IsSl v n cs)(hc:cs.length=n*sz):slC lh sh sz v=some (n,cs):=by
 rcases h with⟨rfl,rfl,rfl⟩|⟨ex,rfl⟩
 ·rfl
 ·rw[FU,if_pos hc]
end Go.Ev
namespace Go.Ev
open Go
section
variable(E:Env)(n:Nat)(b:ak)(fr:Fr)(lh:aB ah)(sh:List ah)
noncomputable def kR:Fr:=match DC E n (.loop b) ⟨fr,lh,sh⟩with|some (_,st)=>st.fr|none=>fr
noncomputable def iy:aB ah:=match DC E n (.loop b) ⟨fr,lh,sh⟩with|some (_,st)=>st.lh|none=>lh
noncomputable def iF:List ah:=match DC E n (.loop b) ⟨fr,lh,sh⟩with|some (_,st)=>st.sh|none=>sh
end
section
variable{E:Env}{n:Nat}{b:ak}{fr:Fr}{lh:aB ah}{sh:List ah}{o:Out}
theorem WO{s:Nat}(h:(jh (.loop b)).contains s=false):aa (kR E n b fr lh sh) s=aa fr s:=by
 unfold kR
 cases r:DC E n (.loop b) ⟨fr,lh,sh⟩with
 |none=>rfl
 |some p=>obtain⟨o,st⟩:=p;exact dY r s h
def wrM:List Nat→Nat
 | []=>0
 |s::r=>(1 <<< s) ||| wrM r
theorem F3(s:Nat): ∀l:List Nat,s∈l→(wrM l).testBit s=true
 | [],h=>by simp at h
 |x::xs,h=>by
  rw[wrM,Nat.testBit_or]
  rcases List.mem_cons.1 h with h|h
  ·grind
  ·rw[F3 s xs h];simp
theorem D2{s:Nat}(h:(wrM (jh (.loop b)) >>> s)%2=0):aa (kR E n b fr lh sh) s=aa fr s:=by
 refine WO ?_
 cases hc:(jh (.loop b)).contains s with
 |false=>rfl
 |true=>
  have h1:=F3 s _ (List.contains_iff_mem.1 hc)
  grind [Nat.testBit]
theorem QN{P:Fr→aB ah→List ah→Prop}(h: ∃r D F,DC E n (.loop b) ⟨fr,lh,sh⟩=some (o,⟨r,D,F⟩)∧P r D F):
  DC E n (.loop b) ⟨fr,lh,sh⟩=some (o,⟨kR E n b fr lh sh,iy E n b fr lh sh,iF E n b fr lh sh⟩)∧P (kR E n b fr lh sh) (iy E n b fr lh sh) (iF E n b fr lh sh):=by
 grind [kR,iy,iF]
end
end Go.Ev
namespace Go.Ev
open Go
theorem gY(m:Nat)(D:m≤62)(a:Int):Ev.bin .and (.i .i64 a) (.i .i64 (2 ^ m-1))=some (.i .i64 (a%2 ^ m)):=by
 have h2:(2:Int) ^ m=((2 ^ m:Nat):Int):=by norm_cast
 have K:0<2 ^ m:=Nat.two_pow_pos m
 have F:2 ^ m≤2 ^ 62:=Nat.pow_le_pow_right zO D
 have WQ:(BitVec.ofInt 64 ((2:Int) ^ m-1)).toNat=2 ^ m-1:=by
  grind
 have r:(BitVec.ofInt 64 a &&& BitVec.ofInt 64 ((2:Int) ^ m-1)).toNat=(a%2 ^ m).toNat:=by
  rw[BitVec.toNat_and,WQ,Nat.and_two_pow_sub_one_eq_mod,BitVec.toNat_ofInt]
  have H:0≤a%((2 ^ 64:Nat):Int):=Int.emod_nonneg _ zO
  have h4:(a%((2 ^ 64:Nat):Int))%((2 ^ m:Nat):Int)=a%((2 ^ m:Nat):Int):=Int.emod_emod_of_dvd a (by
   have:(2 ^ m:Nat)∣2 ^ 64:=Nat.pow_dvd_pow 2 zO
   exact Int.natCast_dvd_natCast.2 this)
  have h5:(((a%((2 ^ 64:Nat):Int)).toNat%2 ^ m:Nat):Int)=a%((2 ^ m:Nat):Int):=by
   grind
  grind
 have N:(IntKind.i64).bits=64:=rfl
 simp only[Ev.bin,if_true,mH]
 have I:0≤a%2 ^ m:=by rw[h2];exact Int.emod_nonneg _ zO
 have J:a%2 ^ m<2 ^ m:=by rw[h2];exact Int.emod_lt_of_pos _ zO
 grind [IntKind.wrap]
section
variable{a:Int}
theorem and_1:Ev.bin .and (.i .i64 a) (.i .i64 1)=some (.i .i64 (a%2)):=gY 1 zO a
theorem and_3:Ev.bin .and (.i .i64 a) (.i .i64 3)=some (.i .i64 (a%4)):=gY 2 zO a
theorem axK:Ev.bin .and (.i .i64 a) (.i .i64 7)=some (.i .i64 (a%8)):=gY 3 zO a
theorem alU:Ev.bin .and (.i .i64 a) (.i .i64 15)=some (.i .i64 (a%16)):=gY 4 zO a
theorem alV:Ev.bin .and (.i .i64 a) (.i .i64 31)=some (.i .i64 (a%32)):=gY 5 zO a
theorem alW:Ev.bin .and (.i .i64 a) (.i .i64 63)=some (.i .i64 (a%64)):=gY 6 zO a
theorem aej:Ev.bin .and (.i .i64 a) (.i .i64 127)=some (.i .i64 (a%128)):=gY 7 zO a
theorem aek:Ev.bin .and (.i .i64 a) (.i .i64 255)=some (.i .i64 (a%256)):=gY 8 zO a
theorem ael:Ev.bin .and (.i .i64 a) (.i .i64 511)=some (.i .i64 (a%512)):=gY 9 zO a
theorem WR:Ev.bin .and (.i .i64 a) (.i .i64 1023)=some (.i .i64 (a%1024)):=gY 10 zO a
theorem QO:Ev.bin .and (.i .i64 a) (.i .i64 65535)=some (.i .i64 (a%65536)):=gY 16 zO a
theorem N9{k k':IntKind}{b:Int}:Ev.bin .shr (.i k a) (.i k' b)=if b<0 then none else some (.i k (a.fdiv (2 ^ (min b.toNat k.bits)))):=by
 simp only[Ev.bin,AW]
theorem fE{k':IntKind}{b:Nat}(h:b≤64):Ev.bin .shr (.i .i64 a) (.i k' (b:Int))=some (.i .i64 (a/2 ^ b)):=by
 rw[N9,if_neg zO,Int.toNat_natCast]
 have:min b (IntKind.i64).bits=b:=Nat.min_eq_left h
 grind
theorem axL{k':IntKind}:Ev.bin .shr (.i .i64 a) (.i k' 3)=some (.i .i64 (a/8)):=fE (b:=3) zO
theorem axM{k':IntKind}:Ev.bin .shr (.i .i64 a) (.i k' 4)=some (.i .i64 (a/16)):=fE (b:=4) zO
theorem axN{k':IntKind}:Ev.bin .shr (.i .i64 a) (.i k' 5)=some (.i .i64 (a/32)):=fE (b:=5) zO
theorem axO{k':IntKind}:Ev.bin .shr (.i .i64 a) (.i k' 2)=some (.i .i64 (a/4)):=fE (b:=2) zO
theorem axP{k':IntKind}:Ev.bin .shr (.i .i64 a) (.i k' 0)=some (.i .i64 a):=by have:=fE (a:=a) (k':=k') (b:=0) zO;simpa using this
theorem axQ{k':IntKind}:Ev.bin .shr (.i .i64 a) (.i k' 6)=some (.i .i64 (a/64)):=fE (b:=6) zO
theorem axR{k':IntKind}:Ev.bin .shr (.i .i64 a) (.i k' 8)=some (.i .i64 (a/256)):=fE (b:=8) zO
theorem alX{k':IntKind}:Ev.bin .shr (.i .i64 a) (.i k' 14)=some (.i .i64 (a/16384)):=fE (b:=14) zO
theorem alY{k':IntKind}:Ev.bin .shr (.i .i64 a) (.i k' 16)=some (.i .i64 (a/65536)):=fE (b:=16) zO
theorem alZ{k':IntKind}:Ev.bin .shr (.i .i64 a) (.i k' 18)=some (.i .i64 (a/262144)):=fE (b:=18) zO
theorem al0{k':IntKind}:Ev.bin .shr (.i .i64 a) (.i k' 20)=some (.i .i64 (a/1048576)):=fE (b:=20) zO
theorem al1{k':IntKind}:Ev.bin .shr (.i .i64 a) (.i k' 21)=some (.i .i64 (a/2097152)):=fE (b:=21) zO
theorem al2{k':IntKind}:Ev.bin .shr (.i .i64 a) (.i k' 24)=some (.i .i64 (a/16777216)):=fE (b:=24) zO
theorem al3{k':IntKind}:Ev.bin .shr (.i .i64 a) (.i k' 25)=some (.i .i64 (a/33554432)):=fE (b:=25) zO
end
theorem ni{n:Int}(h:0≤n∧n≤18446744073709551615):wr .u64 n=n:=by grind [wr,lo,hi]
theorem eS{a b:Int}(h:0≤a):a.tmod b=a%b:=Int.tmod_eq_emod_of_nonneg h
end Go.Ev
namespace Go.Ev
open Go
theorem BE(x:FP):apart x gG=true:=by
 obtain⟨a,r,w⟩:=x
 simp[apart,eZ,gG,Ht]
theorem LM(x:FP):apart gG x=true:=by
 obtain⟨a,r,w⟩:=x
 simp[apart,eZ,gG,Ht]
theorem WS{r D:List (Sp×Nat)}:apart ⟨false,r,[]⟩ ⟨false,D,[]⟩=true:=BB ⟨rfl,rfl⟩ ⟨rfl,rfl⟩
theorem WT{r D w w':List (Sp×Nat)}:apart ⟨false,r,w⟩ ⟨false,D,w'⟩=(eZ w D&&eZ w w'&&eZ r w'):=by
 simp[apart]
theorem LN{r:List (Sp×Nat)}:eZ [] r=true:=rfl
theorem IW{x:Sp×Nat}{xs r:List (Sp×Nat)}:eZ (x::xs) r=(!r.contains x&&eZ xs r):=rfl
theorem aem{x:Sp×Nat}:([]:List (Sp×Nat)).contains x=false:=rfl
theorem WU{a c:Sp}{b d:Nat}{ys:List (Sp×Nat)}:((c,d)::ys).contains (a,b)=((decide (a=c)&&decide (b=d))||ys.contains (a,b)):=by
 rw[List.contains_cons]
 have:((a,b)==(c,d))=(decide (a=c)&&decide (b=d)):=by
  cases a <;> cases c <;> by_cases h:b=d <;> simp[h]
 rw[this]
def dn:mV→Bool
 | .mv _| .pick .. | .bin .. | .eq .. | .un .. | .cvi .. | .b2s _| .mkfn .. | .build .. | .slS .. | .fa .. | .fld .. | .ia .. | .iaA .. | .ixS .. | .ixA .. | .ext .. | .lenS _| .lenV _| .lenC _| .mm .. | .nck _=>true
 | .slV _ _ _ _ none=>true
 |_=>false
theorem aen{x:aX}:dn (.mv x)=true:=nr rfl
theorem QP{c a b:aX}:dn (.pick c a b)=true:=nr rfl
theorem WV{o:BinOp}{x y:aX}:dn (.bin o x y)=true:=nr rfl
theorem aeo{g:Bool}{k:EK}{x y:aX}:dn (.eq g k x y)=true:=nr rfl
theorem aep{o:UnOp}{x:aX}:dn (.un o x)=true:=nr rfl
theorem WW{k:IntKind}{x:aX}:dn (.cvi k x)=true:=nr rfl
theorem kN{x:aX}:dn (.b2s x)=true:=nr rfl
theorem QQ{f:Nat}{a c:List aX}:dn (.mkfn f a c)=true:=nr rfl
theorem LO{z:List T}{r:List (Nat×Nat×aX)}:dn (.build z r)=true:=nr rfl
theorem WX{x:aX}{l h:Option aX}:dn (.slS x l h)=true:=nr rfl
theorem aeq{x:aX}{o:Nat}:dn (.fa x o)=true:=nr rfl
theorem WY{x:aX}{o m:Nat}{g:Bool}:dn (.fld x o m g)=true:=nr rfl
theorem aer{x y:aX}{m:Nat}:dn (.ia x y m)=true:=nr rfl
theorem WZ{x y:aX}{m k:Nat}:dn (.iaA x y m k)=true:=nr rfl
theorem W0{x y:aX}:dn (.ixS x y)=true:=nr rfl
theorem W1{x y:aX}{m k:Nat}{g:Bool}:dn (.ixA x y m k g)=true:=nr rfl
theorem W2{x:aX}{j:Nat}:dn (.ext x j)=true:=nr rfl
theorem QR{x:aX}:dn (.lenS x)=true:=nr rfl
theorem QS{x:aX}:dn (.lenV x)=true:=nr rfl
theorem QT{m:Nat}:dn (.lenC m)=true:=nr rfl
theorem aes{g:Bool}{as:List aX}:dn (.mm g as)=true:=nr rfl
theorem W3{x:aX}:dn (.nck x)=true:=nr rfl
theorem W4{m:Nat}{x:aX}{l h:Option aX}:dn (.slV m x l h none)=true:=nr rfl
def Q.plain:Q AV→Prop
 | .ret (.val _ r)=>r= []
 | .fail=>True
 | .rd _ _ _=>False
 | .new _=>False
theorem Q.plain_run{h:Sp→Nat→ah}{nx:Nat}: ∀(q:Q AV),q.plain→ ∀{v:T} {r:List Up},q.run h nx=some (.val v r)→r= []∧q.asks h nx=false∧q.log h nx= []
 | .ret (.val _ _),hc,v,r,hr=>by simp[Q.run]at hr;obtain⟨rfl,rfl⟩:=hr;exact⟨hc,rfl,rfl⟩
 | .fail,hc,v,r,hr=>by simp[Q.run]at hr
 | .rd sp k f,hc,v,r,hr=>hc.elim
 | .new f,hc,v,r,hr=>hc.elim
theorem iz{o:Option T}:(val o).plain:=by cases o <;> simp[val,Q.plain]
theorem W5{d:Nat}{ρ:aX→T}{op:mV}(h:dn op=true):(bC d ρ op).plain∧bI ρ op=none:=by
 refine⟨?_,by cases op <;> first|rfl|(simp[dn]at h)⟩
 cases op with
 |mv x=>exact rfl
 |pick c a b=>simp only[bC];split <;> simp[Q.plain]
 |bin op x y=>exact iz
 |eq neg k x y=>exact iz
 |un op x=>exact iz
 |cvi k x=>simp only[bC];split <;> simp[Q.plain]
 |b2s x=>simp only[bC];repeat' split
         all_goals trivial
 |mkfn f a c=>exact rfl
 |build z F=>
  simp only[bC]
  by_cases D:(F.all fun p=>decide ((cellsOf (ρ p.2.2)).length=p.2.1)&&noTup (ρ p.2.2))=true
  ·rw[if_pos D];exact iz
  ·rw[if_neg D];trivial
 |slS x l h=>
  simp only[bC]
  split
  ·split
   ·split <;> simp[Q.plain]
   ·trivial
  ·trivial
 |fa x off=>
  simp only[bC]
  split
  ·split <;> simp[Q.plain]
  ·exact rfl
  ·trivial
 |fld x off m ag=>
  simp only[bC]
  split
  ·exact iz
  ·trivial
 |ia x r sz=>
  simp only[bC]
  split
  ·split <;> simp[Q.plain]
  ·split <;> simp[Q.plain]
  ·trivial
 |iaA x r len sz=>
  simp only[bC]
  split
  ·split <;> simp[Q.plain]
  ·split <;> simp[Q.plain]
  ·trivial
 |ixS x r=>
  simp only[bC]
  split
  ·split <;> simp[Q.plain]
  ·trivial
 |ixA x r len sz ag=>
  simp only[bC]
  split
  ·split
   ·exact iz
   ·trivial
  ·trivial
 |ext x j=>
  simp only[bC]
  split
  ·exact iz
  ·trivial
 |lenS x=>simp only[bC];split <;> simp[Q.plain]
 |lenV x=>exact iz
 |lenC m=>exact rfl
 |mm b as=>
  simp only[bC]
  split
  ·exact iz
  ·trivial
 |nck x=>simp only[bC];split <;> simp[Q.plain]
 |slV sz x l h H=>
  cases H with
  |some m=>simp[dn]at h
  |none=>
   simp only[bC]
   split
   ·trivial
   ·split
    ·unfold xO
     split
     ·split <;> simp[Q.bind,Q.plain]
     ·split <;> simp[Q.bind,Q.plain]
     ·split <;> simp[Q.bind,Q.plain]
     ·trivial
    ·rename_i I;exact absurd I xv
    ·trivial
 |_=>simp[dn]at h
def ke(E:Env)(call:kg)(n:Nat)(ds:List (List Nat×aF))(bw:List FP)(x:Option St):Option St:=x.bind (aM E call n ds bw)
def meets(u:List Nat)(bw:List FP)(fp:FP):Bool:=u.all fun i=>apart (aJ ⟨true,[],[]⟩ bw i) fp
section
variable{E:Env}{call:kg}{n:Nat}{fr:Fr}{lh:aB ah}{sh:List ah}{ds:List (List Nat×aF)}{bw:List FP}{u:List Nat}{d:Option Nat}
theorem aet{st:St}:ke E call n ds bw (some st)=aM E call n ds bw st:=rfl
theorem aeu:ke E call n ds bw none=none:=rfl
theorem al4{c:Prop}[Decidable c]{x y:Option St}:ke E call n ds bw (if c then x else y)=if c then ke E call n ds bw x else ke E call n ds bw y:=by split <;> rfl
theorem QU{fp:FP}:meets [] bw fp=true:=rfl
theorem LP{i:Nat}{fp:FP}:meets (i::u) bw fp=(apart (aJ ⟨true,[],[]⟩ bw i) fp&&meets u bw fp):=rfl
theorem qR:meets u bw gG=true:=by
 unfold meets
 rw[List.all_eq_true]
 intro i _
 exact BE _
theorem QV{st:St}:DC E n (.draws ds) st=(aM E (ae E) n ds [] st).map fun r=>(.nrm,r):=IB
theorem nM{o:aF}{fp:FP}{st:St}(h:br E call n o st≠none→ch E call o st=some fp):
  aM E call n ((u,o)::ds) bw st=if meets u bw fp=true then ke E call n ds (bw++ [fp]) (aj E call n [o] st)else none:=by
 simp only[aM]
 unfold meets ke
 cases r:br E call n o st with
 |none=>
  have h1:aj E call n [o] st=none:=by simp only[aj,r]
  rw[h1]
  cases ch E call o st with
  |none=>simp
  |some D=>simp
 |some s=>
  have h1:aj E call n [o] st=some s:=by simp only[aj,r]
  rw[h1,h (by rw[r];simp)]
  rfl
theorem qm{op:mV}{st:St}{q:Q AV}(H:bI st.rho op=none)(J:bC (d.getD 0) st.rho op=q)(F:br E call n ⟨d,op,none⟩ st≠none):
  ∃v D,q.run st.get st.sh.length=some (.val v D)∧((q.asks st.get st.sh.length||inB st D)=true→ch E call ⟨d,op,none⟩ st=some ⟨q.asks st.get st.sh.length,q.log st.get st.sh.length,dg D⟩):=by
 subst J
 unfold br at F
 simp only[H]at F
 cases I:(bC (d.getD 0) st.rho op).run st.get st.sh.length with
 |none=>simp only[I]at F;exact absurd rfl F
 |some r=>
  obtain⟨v,D⟩:=r
  refine⟨v,D,rfl,fun K=> ?_⟩
  unfold ch
  simp only[H,I]
  rw[if_pos K]
theorem al5{op:mV}(H:dn op=true):aM E call n ((u,⟨d,op,none⟩)::ds) bw ⟨fr,lh,sh⟩=ke E call n ds (bw++ [gG]) (aj E call n [⟨d,op,none⟩] ⟨fr,lh,sh⟩):=by
 rw[nM (fp:=gG),qR,if_pos rfl]
 intro D
 obtain⟨I,J⟩:=W5 (d:=d.getD 0) (ρ:=(St.mk fr lh sh).rho) H
 unfold br at D
 unfold ch
 simp only[J]at D ⊢
 cases F:(bC (d.getD 0) (St.mk fr lh sh).rho op).run (St.mk fr lh sh).get sh.length with
 |none=>simp only[F]at D;exact absurd rfl D
 |some r=>
  obtain⟨v,K⟩:=r
  obtain⟨rfl,N,O⟩:=Q.plain_run _ I F
  simp only[N,O,inB,List.all_nil,Bool.or_true,if_true,dg,List.map_nil]
  rfl
def nj:T→List (Sp×Nat)
 | .ptr sp k _ _=> [(sp,k)]
 |_=> []
theorem W6{cs:List T}:nj (.vp cs)= []:=rfl
theorem QW{sp:Sp}{k g off:Nat}:nj (.ptr sp k g off)= [(sp,k)]:=rfl
theorem Q.log_bind{α β:Type}{h:Sp→Nat→ah}{nx:Nat}{f:α→Q β}(r: ∀a,(f a).log h nx= []): ∀q:Q α,(q.bind f).log h nx=q.log h nx
 | .ret a=>r a
 | .fail=>rfl
 | .rd sp k g=>by show(sp,k)::((g (h sp k)).bind f).log h nx=(sp,k)::(g (h sp k)).log h nx;rw[Q.log_bind r (g (h sp k))]
 | .new g=>Q.log_bind r (g nx)
theorem aEF{x:aX}{m:Nat}{ag:Bool}:aM E call n ((u,⟨d,.ld x m ag,none⟩)::ds) bw ⟨fr,lh,sh⟩=
  if meets u bw ⟨false,nj (rd fr x),[]⟩=true then ke E call n ds (bw++ [⟨false,nj (rd fr x),[]⟩]) (aj E call n [⟨d,.ld x m ag,none⟩] ⟨fr,lh,sh⟩)else none:=by
 refine nM ?_
 intro D
 obtain⟨I,J⟩:=FW (d:=d.getD 0) (ρ:=(St.mk fr lh sh).rho) (op:= .ld x m ag) rfl
 unfold br at D
 unfold ch
 simp only[J]at D ⊢
 cases H:(bC (d.getD 0) (St.mk fr lh sh).rho (.ld x m ag)).run (St.mk fr lh sh).get sh.length with
 |none=>simp only[H]at D;exact absurd rfl D
 |some r=>
  obtain⟨v,K⟩:=r
  obtain⟨rfl,N⟩:=Q.calm_run _ I H
  have O:(bC (d.getD 0) (St.mk fr lh sh).rho (.ld x m ag)).log (St.mk fr lh sh).get sh.length=nj (rd fr x):=by
   rw[dC]
   simp only[bC]
   rw[Q.log_bind (fun a=>rfl)]
   unfold Fo nj
   cases hx:rd fr x <;> try rfl
   ·simp only[];generalize Ev.part _ _ _ _=o;cases o <;> rfl
   ·rename_i sp k g off
    simp only[Q.log]
    congr 1
    generalize (St.mk fr lh sh).get sp k=e
    obtain⟨U,ob⟩:=e
    by_cases F:U=g
    ·cases ob with
     |cells cs wm bx=>simp only[F,if_true];generalize Ev.part _ _ _ _=o;cases o <;> rfl
     |_=>simp only[F,if_true];rfl
    ·simp only[F,if_false];rfl
  simp only[N,O,inB,List.all_nil,Bool.or_true,if_true,dg,List.map_nil]
theorem D3{keep:Bool}{m:Nat}{h:Sp→Nat→ah}{nx:Nat}: ∀(ts:List T),ts.all froz=true→(bn (fz keep (m+2)) ts).log h nx= []
 | [],_=>rfl
 |t::ts,r=>by
  simp only[List.all_cons,Bool.and_eq_true]at r
  simp only[bn,ky r.1,Q.bind]
  rw[Q.log_bind (fun a=>rfl),D3 ts r.2]
theorem aj5{f:Nat}{af:ai}{as:List aX}(H:E.fn f=some af)(I:af.eff=false)(J:af.own=none)(F:(as.map (rd fr)).all froz=true):
  aM E call n ((u,⟨d,.callf f as,none⟩)::ds) bw ⟨fr,lh,sh⟩=ke E call n ds (bw++ [gG]) (aj E call n [⟨d,.callf f as,none⟩] ⟨fr,lh,sh⟩):=by
 rw[nM (fp:=gG),qR,if_pos rfl]
 intro D
 unfold br at D
 unfold ch
 have K:bI (St.mk fr lh sh).rho (.callf f as)=some (some (f,as.map (rd fr))):=by rw[dC];rfl
 simp only[K]at D ⊢
 rw[HT H I J F]at D
 unfold fb
 have h1:(bn (fz af.eff aL) (as.map (rd fr))).run (St.mk fr lh sh).get sh.length=some (as.map (rd fr),[]):=by
  have:=Bx (lh:=lh) (sh:=sh) (keep:=af.eff) F
  unfold zD at this
  rw[l8];exact this
 simp only[H]
 rw[h1]
 simp only[inB,List.all_nil,Bool.not_true,Bool.false_eq_true,if_false,I,J]
 cases hc:call f (as.map (rd fr)) []with
 |none=>rw[hc]at D;exact absurd rfl D
 |some r=>
  simp only[dg,List.map_nil,ite_self]
  have:(bn (fz false aL) (as.map (rd fr))).log (St.mk fr lh sh).get sh.length= []:=D3 _ F
  rw[this];rfl
theorem axS{z:List T}{len:Nat}{r:List (Nat×aX)}(H:(r.map fun p=>rd fr p.2).all froz=true):
  aM E call n ((u,⟨d,.bsl z len r,none⟩)::ds) bw ⟨fr,lh,sh⟩=ke E call n ds (bw++ [gG]) (aj E call n [⟨d,.bsl z len r,none⟩] ⟨fr,lh,sh⟩):=by
 rw[nM (fp:=gG),qR,if_pos rfl]
 intro I
 have h1:bn (fz false aL) (r.map fun p=>rd fr p.2)= .ret (r.map (fun p=>rd fr p.2),[]):=by
  have: ∀(ts:List T),ts.all froz=true→bn (fz false aL) ts= .ret (ts,[]):=by
   intro ts
   induction ts with
   |nil=>intro _;rfl
   |cons t ts ih=>
    intro D
    simp only[List.all_cons,Bool.and_eq_true]at D
    rw[bn,ih D.2]
    unfold aL
    rw[ky D.1];rfl
  exact this _ H
 obtain⟨v,J,hr,F⟩:=qm (q:=if((r.map fun p=>rd fr p.2).all fun v=>decide ((cellsOf v).length=z.length)&&noTup v)=true then(match mW (repl z len) ((r.map fun p=>p.1*z.length).zip ((r.map fun p=>rd fr p.2).map cellsOf))with|some cs=>Q.ret (.val (.sl cs len true) [])|none=> .fail)else .fail) (by rfl) (by rw[dC];simp only[bC];rw[h1];rfl) I
 split at hr
 ·split at hr
  ·simp[Q.run]at hr
   obtain⟨rfl,rfl⟩:=hr
   rename_i K _ _ N
   rw[if_pos K,N]at F
   exact F rfl
  ·simp[Q.run]at hr
 ·simp[Q.run]at hr
theorem aev{r:Nat}{z:List T}:aM E call n ((u,⟨some r,.alloc z false,none⟩)::ds) bw ⟨fr,lh,sh⟩=
  if meets u bw ⟨false,[(.L,r)],[(.L,r)]⟩=true then ke E call n ds (bw++ [⟨false,[(.L,r)],[(.L,r)]⟩]) (aj E call n [⟨some r,.alloc z false,none⟩] ⟨fr,lh,sh⟩)else none:=
 nM fun _=>rfl
theorem al6{r:Nat}{z:List T}{bytes:Nat}{x:aX}:aM E call n ((u,⟨some r,.mksl z bytes x false,none⟩)::ds) bw ⟨fr,lh,sh⟩=
  if meets u bw ⟨false,[(.L,r)],[(.L,r)]⟩=true then ke E call n ds (bw++ [⟨false,[(.L,r)],[(.L,r)]⟩]) (aj E call n [⟨some r,.mksl z bytes x false,none⟩] ⟨fr,lh,sh⟩)else none:=by
 refine nM fun H=> ?_
 cases I:asNat (rd fr x)with
 |none=>
  obtain⟨v,D,hr,F⟩:=qm (q:= .fail) (by rfl) (by rw[dC];simp only[bC,I]) H
  simp[Q.run]at hr
 |some k=>
  obtain⟨v,D,hr,F⟩:=qm (q:=if k*bytes≤roomy&&k≤roomy then jq r false (.cells (repl z k) 0 (SN z)) (fun sp k' g=> .isl sp k' g 0 k z.length)else .fail) (by rfl) (by rw[dC];simp only[bC,I];rfl) H
  split at hr
  ·rename_i J
   rw[if_pos J]at F
   simp[jq,Q.run]at hr
   obtain⟨rfl,rfl⟩:=hr
   exact F rfl
  ·simp[Q.run]at hr
def aew:T→Bool
 | .ptr .L .. =>true
 |_=>false
theorem W7{k g off:Nat}:aew (.ptr .L k g off)=true:=nr rfl
theorem aEG{x v:aX}{m:Nat}(hx:aew (rd fr x)=true)(J:froz (rd fr v)=true):aM E call n ((u,⟨none,.st x v m,none⟩)::ds) bw ⟨fr,lh,sh⟩=
  if meets u bw ⟨false,nj (rd fr x),nj (rd fr x)⟩=true then ke E call n ds (bw++ [⟨false,nj (rd fr x),nj (rd fr x)⟩]) (aj E call n [⟨none,.st x v m,none⟩] ⟨fr,lh,sh⟩)else none:=by
 refine nM fun H=> ?_
 cases CV:rd fr x with
 |ptr sp k g off=>
  cases sp with
  |S=>rw[CV]at hx;simp[aew]at hx
  |L=>
   by_cases I:(decide ((cellsOf (rd fr v)).length≠m)|| !noTup (rd fr v))=true
   ·obtain⟨w,F,hr,r⟩:=qm (q:= .fail) (by rfl) (by rw[dC];simp only[bC,nI,CV];rw[if_pos I]) H
    simp[Q.run]at hr
   ·obtain⟨w,F,hr,r⟩:=qm (q:= .rd .L k (adj k g off m (rd fr v))) (by rfl) (by rw[dC];simp only[bC,nI,CV];rw[if_neg I];rfl) H
    simp only[Q.run,Q.log,Q.asks,NP]at hr r
    generalize ab lh k=e at hr r
    obtain⟨K,ob⟩:=e
    unfold adj at hr r
    by_cases D:K=g
    ·cases ob with
     |none=>simp[D,Q.run]at hr
     |map ks O z=>simp[D,Q.run]at hr
     |cells cs wm bx=>
      simp only[D,if_true]at hr r
      split at hr
      ·rename_i hc
       rw[if_pos hc]at r
       cases bx with
       |true=>
        simp[Q.run]at hr
        obtain⟨rfl,rfl⟩:=hr
        exact r rfl
       |false=>
        unfold aL at hr r
        simp only[Bool.false_and,Bool.false_eq_true,if_false]at hr r
        rw[ky J]at hr r
        simp only[Q.bind]at hr r
        split at hr
        ·simp[Q.run]at hr
        ·rename_i N
         rw[if_neg N]at r
         simp[Q.run]at hr
         obtain⟨rfl,rfl⟩:=hr
         exact r rfl
      ·simp[Q.run]at hr
    ·simp only[D,if_false,Q.run]at hr
     cases hr
 |_=>rw[CV]at hx;simp[aew]at hx
theorem Oa{op:mV}{j:Nat}{w:Bool}(h:aa fr j= .b w):aM E call n ((u,⟨d,op,some (j,w)⟩)::ds) bw ⟨fr,lh,sh⟩=aM E call n ((u,⟨d,op,none⟩)::ds) bw ⟨fr,lh,sh⟩:=by
 simp only[aM,ch,br,h,if_true]
theorem W8{op:mV}{j:Nat}(h:aa fr j= .b true):aM E call n ((u,⟨d,op,some (j,true)⟩)::ds) bw ⟨fr,lh,sh⟩=aM E call n ((u,⟨d,op,none⟩)::ds) bw ⟨fr,lh,sh⟩:=Oa h
theorem W9{op:mV}{j:Nat}(h:aa fr j= .b false):aM E call n ((u,⟨d,op,some (j,false)⟩)::ds) bw ⟨fr,lh,sh⟩=aM E call n ((u,⟨d,op,none⟩)::ds) bw ⟨fr,lh,sh⟩:=Oa h
theorem F4{op:mV}{j:Nat}{w:Bool}(r:CU n d)(h:aa fr j= .b (!w)∨aa fr j=ba):aM E call n ((u,⟨d,op,some (j,w)⟩)::ds) bw ⟨fr,lh,sh⟩=aM E call n ds (bw++ [gG]) ⟨uU fr d ba,lh,sh⟩:=by
 have D:ch E call ⟨d,op,some (j,w)⟩ ⟨fr,lh,sh⟩=some gG:=by
  unfold ch
  rcases h with h|h
  ·simp only[h];rw[if_neg (by cases w <;> simp)]
  ·simp only[h,ba]
 rw[nM (fp:=gG) (fun _=>D),qR,if_pos rfl]
 rcases h with h|h
 ·rw[Bz r h];rfl
 ·rw[NV r h];rfl
theorem Xa{r:Nat}{op:mV}{j:Nat}(D:r<n)(h:aa fr j= .b false):aM E call n ((u,⟨some r,op,some (j,true)⟩)::ds) bw ⟨fr,lh,sh⟩=aM E call n ds (bw++ [gG]) ⟨cQ fr r ba,lh,sh⟩:=F4 (d:=some r) D (Or.inl h)
theorem Xb{r:Nat}{op:mV}{j:Nat}(D:r<n)(h:aa fr j= .b true):aM E call n ((u,⟨some r,op,some (j,false)⟩)::ds) bw ⟨fr,lh,sh⟩=aM E call n ds (bw++ [gG]) ⟨cQ fr r ba,lh,sh⟩:=F4 (d:=some r) D (Or.inl h)
theorem Xc{r:Nat}{op:mV}{j:Nat}{w:Bool}(D:r<n)(h:aa fr j=ba):aM E call n ((u,⟨some r,op,some (j,w)⟩)::ds) bw ⟨fr,lh,sh⟩=aM E call n ds (bw++ [gG]) ⟨cQ fr r ba,lh,sh⟩:=F4 (d:=some r) D (Or.inr h)
end
end Go.Ev
namespace Go.Ev
open Go
def fzW(m:Nat)(lh:aB ah)(sh:List ah)(keep:Bool)(v:T):Option (T×List Up):=(fz keep (m+1) v).run (St.mk .nil lh sh).get sh.length
def tw(m:Nat)(lh:aB ah)(sh:List ah)(keep:Bool)(r:List T):Option (List T×List Up):=(bn (fz keep (m+1)) r).run (St.mk .nil lh sh).get sh.length
section
variable{m:Nat}{lh:aB ah}{sh:List ah}{keep:Bool}
theorem wW{v:T}(h:froz1 v=true):fzW m lh sh keep v=some (v,[]):=by unfold fzW;rw[kK h];rfl
theorem F5{k g off len sz:Nat}:fzW m lh sh keep (.isl .L k g off len sz)=Qx m lh sh k (ab lh k) g off len sz:=by
 cases keep <;> exact axi (ab lh k)
theorem al7{k g:Nat}:fzW m lh sh keep (.mp .L k g)=mpV k (ab lh k) g:=by
 cases keep <;> exact mpQ (ab lh k)
theorem Xd:tw m lh sh keep []=some ([],[]):=rfl
theorem QX{v:T}{r:List T}:tw m lh sh keep (v::r)=(fzW m lh sh keep v).bind fun p=>(tw m lh sh keep r).bind fun q=>some (p.1::q.1,p.2++q.2):=by
 unfold tw fzW
 rw[bn,bq]
 congr 1
 funext p
 rw[bq]
 rfl
theorem BF{r:List T}(h:r.all froz1=true):tw m lh sh keep r=some (r,[]):=by
 unfold tw;rw[jd r h];rfl
theorem Xe{cs:List T}:fzV lh sh keep (.agg cs)=(tw 6 lh sh keep cs).map fun q=>(.agg q.1,q.2):=adh
theorem Xf{cs:List T}:fzV lh sh keep (.tup cs)=(tw 6 lh sh keep cs).map fun q=>(.tup q.1,q.2):=adi
theorem Xg{cs:List T}:fzW (m+1) lh sh keep (.agg cs)=(tw m lh sh keep cs).map fun q=>(.agg q.1,q.2):=by
 unfold fzW tw
 rw[FQ,bq]
 cases (bn (fz keep (m+1)) cs).run (St.mk .nil lh sh).get sh.length <;> rfl
theorem Xh{r:Bool}{v:T}:QE lh sh r [v]=(fzV lh sh r v).map fun p=>(p.1,((St.mk .nil lh sh).ups p.2).sh):=rfl
theorem QY{r:Bool}{v u:T}{D:List T}:QE lh sh r (v::u::D)=(fzV lh sh r (.tup (v::u::D))).map fun p=>(p.1,((St.mk .nil lh sh).ups p.2).sh):=rfl
end
theorem axT{x y:List Nat}:sy (.one .str) (.s x) (.s y)=some (decide (x=y)):=by
 simp only[sy,eX,Bool.beq_eq_decide_eq]
theorem axU{k:IntKind}{x y:Int}:sy (.one .int) (.i k x) (.i k y)=some (decide (x=y)):=by
 simp_all[sy,eX,Bool.beq_eq_decide_eq]
theorem al8{k:IntKind}{x y:Int}{s t:List Nat}:sy (.flat [.int,.str]) (.agg [.i k x,.s s]) (.agg [.i k y,.s t])=some (decide (x=y∧s=t)):=by
 simp only[sy,cz,eX,if_true,Bool.beq_eq_decide_eq]
 grind
theorem yj{x:List Nat}:isKey (.one .str) (.s x)=true:=nr rfl
theorem ai2{k:IntKind}{x:Int}:isKey (.one .int) (.i k x)=true:=nr rfl
theorem Xi{k:IntKind}{x:Int}{s:List Nat}:isKey (.flat [.int,.str]) (.agg [.i k x,.s s])=true:=nr rfl
def axV(r:Option Bool)(D:Option (Option Nat)):Option (Option Nat):=
 match r with
 |some true=>some (some 0)
 |some false=>D.map fun r=>r.map (· +1)
 |none=>none
theorem QZ{kk:EK}{k x:T}{xs:List T}:iD kk k (x::xs)=axV (sy kk k x) (iD kk k xs):=rfl
def lkF(F:List T)(z:T)(D:Bool)(r:Option (Option Nat)):Option T:=
 match r with
 |some (some i)=>F[i]?.map fun v=>if D=true then .tup [v,.b true]else v
 |some none=>some (if D=true then .tup [z,.b false]else z)
 |none=>none
theorem Oc{kk:EK}{ks r:List T}{k z:T}{D:Bool}(h:isKey kk k=true):jb kk ks r k z D=lkF r z D (iD kk k ks):=by
 grind [jb,lkF]
theorem IX{r:List T}{z:T}{D:Bool}{i:Nat}:lkF r z D (some (some i))=r[i]?.map fun v=>if D=true then .tup [v,.b true]else v:=rfl
def al9(ks D:List T)(k v:T)(r:Option (Option Nat)):Option (List T×List T):=
 match r with
 |some (some i)=>some (ks.set i k,D.set i v)
 |some none=>some (ks++ [k],D++ [v])
 |none=>none
theorem aex{kk:EK}{ks r:List T}{k v:T}:lU kk k v ks r=al9 ks r k v (iD kk k ks):=by
 grind [lU,al9]
theorem Q0{ks r:List T}{k v:T}:al9 ks r k v (some none)=some (ks++ [k],r++ [v]):=rfl
theorem cq{g r:Nat}{ks D:List T}{z:Bool}{F:EK}{k u:T}{H:Bool}:lkE ⟨r,.map ks D z⟩ g F k u H=if r=g then jb F ks D k u H else none:=rfl
theorem pq{lh:aB ah}{kk g D:Nat}{ks F:List T}{r:EK}{k v:T}:muE lh kk ⟨D,.map ks F false⟩ g r k v=if D=g∧isKey r k=true then(lU r k v ks F).map fun q=>iK lh kk ⟨g,.map q.1 q.2 false⟩else none:=rfl
end Go.Ev
namespace Go.Ev
open Go
section
variable{E:Env}{call:kg}{n:Nat}{fr:Fr}{lh:aB ah}{sh:List ah}{os:List aF}{d:Nat}
theorem Xj{z:List T}(r:d<n):aj E call n (⟨some d,.alloc z true,none⟩::os) ⟨fr,lh,sh⟩=aj E call n os ⟨cQ fr d (.ptr .S sh.length 1 0),lh,aK sh sh.length ⟨1,.cells z 0 true⟩⟩:=by
 rw[kJ (by rfl) (show CU n (some d)from r)];rfl
theorem Xk(r:d<n):aj E call n (⟨some d,.mkmap true,none⟩::os) ⟨fr,lh,sh⟩=aj E call n os ⟨cQ fr d (.mp .S sh.length 1),lh,aK sh sh.length ⟨1,.map [] [] false⟩⟩:=by
 rw[kJ (by rfl) (show CU n (some d)from r)];rfl
theorem Q1{e:ah}{l:List ah}:aE (e::l) 0=e:=rfl
theorem oe{e:ah}{l:List ah}{k:Nat}:aE (e::l) (k+1)=aE l k:=rfl
theorem Xl{k:Nat}:aE [] k=fv:=rfl
theorem Xm{v:ah}:aK [] 0 v= [v]:=rfl
theorem Q2{e v:ah}{l:List ah}:aK (e::l) 0 v=v::l:=rfl
theorem og{e v:ah}{l:List ah}{k:Nat}:aK (e::l) (k+1) v=e::aK l k v:=rfl
def BG(lh:aB ah)(sh:List ah)(k:Nat)(e:ah)(g off:Nat)(v:T)(m:Nat):Option (aB ah×List ah):=
 match e with
 |⟨r,.cells cs wm bx⟩=>if r=g∧(cellsOf v).length=m∧noTup v=true∧wm≤off∧off+m≤cs.length then some (lh,aK sh k ⟨g,.cells (splice cs off (cellsOf v)) wm bx⟩)else none
 |_=>none
def IY(k g off m:Nat)(v:T)(e:ah):Q AV:=if e.g=g then match e.ob with
     | .cells cs wm bx=>if wm≤off&&off+m≤cs.length then
         (if bx&&Sp.S== .L then .ret (.val ba [(Sp.S,k,⟨g,.cells (splice cs off (cellsOf v)) wm bx⟩)])
         else(fz (bx&&Sp.S== .S) aL v).bind fun p=>if jU p.2 .S k|| !noTup p.1||(cellsOf p.1).length≠m then .fail else .ret (.val ba (p.2++ [(Sp.S,k,⟨g,.cells (splice cs off (cellsOf p.1)) wm bx⟩)])))
       else .fail
     |_=> .fail
    else .fail
theorem aey{k g off m:Nat}{v:T}(e:ah)(h1:(cellsOf v).length=m)(h2:noTup v=true)(F:froz v=true):iS lh sh (Q.run (St.mk .nil lh sh).get sh.length (IY k g off m v e))=BG lh sh k e g off v m:=by
 obtain⟨H,ob⟩:=e
 unfold BG IY
 by_cases I:H=g
 ·subst I
  cases ob with
  |none=>simp[Q.run,iS]
  |map ks K z=>simp[Q.run,iS]
  |cells cs wm bx=>
   by_cases r:wm≤off∧off+m≤cs.length
   ·have D:(decide (wm≤off)&&decide (off+m≤cs.length))=true:=by simp[r.1,r.2]
    have Lf:(bx&&Sp.S==Sp.L)=false:=by cases bx <;> rfl
    unfold aL
    simp only[if_true,D,Lf,Bool.false_eq_true,if_false]
    rw[ky F]
    have J:(jU [] Sp.S k|| !noTup v||decide ((cellsOf v).length≠m))=false:=by simp[jU,h1,h2]
    simp only[Q.bind,J,Bool.false_eq_true,if_false,Q.run,iS]
    rw[if_pos ⟨trivial,h1,h2,r⟩]
    rfl
   grind [Bool.false_eq_true,Q.run,iS]
 grind [Q.run,iS]
theorem axW{k g off m:Nat}{v:T}(r:froz v=true):stV lh sh (.ptr .S k g off) v m=BG lh sh k (aE sh k) g off v m:=by
 by_cases h1:(cellsOf v).length=m
 ·cases h2:noTup v with
  |false=>
   unfold stV nI
   have:(decide ((cellsOf v).length≠m)|| !noTup v)=true:=by simp[h2]
   simp only[this,if_true,Q.run]
   unfold BG
   grind
  |true=>
   unfold stV nI
   have:(decide ((cellsOf v).length≠m)|| !noTup v)=false:=by simp[h1,h2]
   simp only[this,Bool.false_eq_true,if_false]
   exact aey (aE sh k) h1 h2 r
 ·unfold stV nI
  have:(decide ((cellsOf v).length≠m)|| !noTup v)=true:=by simp[h1]
  simp only[this,if_true,Q.run]
  unfold BG
  grind
theorem dD{k g r off m wm:Nat}{cs:List T}{bx:Bool}{v:T}:BG lh sh k ⟨r,.cells cs wm bx⟩ g off v m=if r=g∧(cellsOf v).length=m∧noTup v=true∧wm≤off∧off+m≤cs.length then some (lh,aK sh k ⟨g,.cells (splice cs off (cellsOf v)) wm bx⟩)else none:=rfl
end
section
variable{E:Env}{call:kg}{n:Nat}{fr:Fr}{lh:aB ah}{sh:List ah}{ds:List (List Nat×aF)}{bw:List FP}{u:List Nat}{d:Option Nat}
def nk:T→List (Sp×Nat)
 | .mp sp k _=> [(sp,k)]
 |_=> []
theorem Xn{sp:Sp}{k g:Nat}:nk (.mp sp k g)= [(sp,k)]:=rfl
theorem Xo{a b:List T}:nk (.vm a b)= []:=rfl
theorem aez{h:Sp→Nat→ah}{nx:Nat}{o:Option T}:(val o).log h nx= []:=by cases o <;> rfl
theorem aEI{r:EK}{m k:aX}{z:T}{D:Bool}:aM E call n ((u,⟨d,.lk r m k z D,none⟩)::ds) bw ⟨fr,lh,sh⟩=
  if meets u bw ⟨false,nk (rd fr m),[]⟩=true then ke E call n ds (bw++ [⟨false,nk (rd fr m),[]⟩]) (aj E call n [⟨d,.lk r m k z D,none⟩] ⟨fr,lh,sh⟩)else none:=by
 refine nM fun H=> ?_
 obtain⟨I,J⟩:=FW (d:=d.getD 0) (ρ:=(St.mk fr lh sh).rho) (op:= .lk r m k z D) rfl
 obtain⟨v,K,hr,N⟩:=qm J rfl H
 obtain⟨rfl,F⟩:=Q.calm_run _ I hr
 have O:(bC (d.getD 0) (St.mk fr lh sh).rho (.lk r m k z D)).log (St.mk fr lh sh).get sh.length=nk (rd fr m):=by
  rw[dC]
  grind [nk,bC,Q.log,aez]
 have:=N (by rw[F];simp[inB])
 rw[this,F,O];rfl
def aeA:T→Bool
 | .mp .L .. =>true
 |_=>false
theorem aeB{k g:Nat}:aeA (.mp .L k g)=true:=nr rfl
theorem aEJ{D:EK}{m k v:aX}(hx:aeA (rd fr m)=true)(F:froz (rd fr v)=true):aM E call n ((u,⟨none,.mu D m k v,none⟩)::ds) bw ⟨fr,lh,sh⟩=
  if meets u bw ⟨false,nk (rd fr m),nk (rd fr m)⟩=true then ke E call n ds (bw++ [⟨false,nk (rd fr m),nk (rd fr m)⟩]) (aj E call n [⟨none,.mu D m k v,none⟩] ⟨fr,lh,sh⟩)else none:=by
 refine nM fun H=> ?_
 cases CV:rd fr m with
 |mp sp kk g=>
  cases sp with
  |S=>grind [aeA]
  |L=>
   obtain⟨w,I,hr,r⟩:=qm (q:= .rd .L kk (adn kk g D (rd fr k) (rd fr v))) (by rfl) (by rw[dC];simp only[bC,CV];rfl) H
   simp only[Q.run,Q.log,Q.asks,NP]at hr r
   generalize ab lh kk=e at hr r
   obtain⟨J,ob⟩:=e
   unfold adn at hr r
   by_cases K:(decide (J=g)&&isKey D (rd fr k))=true
   ·simp only[K,if_true]at hr r
    cases ob with
    |none=>simp[Q.run]at hr
    |cells cs wm bx=>simp[Q.run]at hr
    |map ks U N=>
     cases N with
     |true=>simp[Q.run]at hr
     |false=>
      simp only[]at hr r
      unfold aL at hr r
      rw[ky F]at hr r
      simp only[Q.bind]at hr r
      split at hr
      ·rename_i q O
       simp only[jU,List.any_nil,Bool.false_eq_true,if_false,Q.run,Option.some.injEq,AV.val.injEq]at hr
       obtain⟨rfl,rfl⟩:=hr
       rw[O]at r
       simp only[jU,List.any_nil,Bool.false_eq_true,if_false]at r
       exact r rfl
      ·simp[Q.run]at hr
   grind [Bool.false_eq_true,Q.run]
 |_=>grind [aeA]
end
section
variable{E:Env}{call:kg}{n:Nat}{fr:Fr}{lh:aB ah}{sh:List ah}{ds:List (List Nat×aF)}{bw:List FP}{d:Option Nat}
theorem Od{D:Bool}{F sz bytes:Nat}{s x:T}{v:T}{r:List Up}{st:St}(hs:notS s=true)(h:(jr F sz bytes s x false D).run st.get st.sh.length=some (.val v r)):inB st r=true:=by
 unfold jr at h
 rw[bq]at h
 cases hx:(cg sz x).run st.get st.sh.length with
 |none=>grind
 |some p=>
  rw[hx]at h
  simp only[Option.bind_some]at h
  split at h
  ·split at h
   ·simp[Q.run]at h;rw[h.2];rfl
   ·simp[Q.run]at h;rw[h.2];rfl
   ·simp[Q.run]at h;rw[h.2];rfl
   ·simp[Q.run]at h
  ·split at h
   ·split at h
    ·simp[jq,Q.run]at h;rw[←h.2];rfl
    ·simp[Q.run]at h
   ·split at h
    ·simp[jq,Q.run]at h;rw[←h.2];rfl
    ·simp[Q.run]at h
   ·rename_i sp k g off len H
    cases sp with
    |S=>simp[notS]at hs
    |L=>
     split at h
     ·simp only[Q.run]at h
      split at h
      ·split at h
       ·split at h
        ·simp[Q.run]at h;rw[←h.2];rfl
        ·simp[Q.run]at h
       ·simp[Q.run]at h
      ·simp[Q.run]at h
     ·simp[Q.run]at h
   ·simp[Q.run]at h
def SR:List (List Nat×aF)→Bool
 | []=>true
 |(u,_)::ds=>u.isEmpty&&SR ds
theorem aeC:SR []=true:=nr rfl
theorem Xp{o:aF}{ds:List (List Nat×aF)}:SR (([],o)::ds)=SR ds:=nr rfl
theorem BH: ∀(ds:List (List Nat×aF)) (bw r:List FP) (st:St),SR ds=true→aM E call n ds bw st=aM E call n ds r st
 | [],_,_,_,_=>rfl
 |(u,o)::ds,bw,r,st,h=>by
  simp only[SR,Bool.and_eq_true,List.isEmpty_iff]at h
  obtain⟨rfl,h⟩:=h
  simp only[aM,List.all_nil,if_true]
  cases ch E call o st with
  |none=>rfl
  |some fp=>
   simp only[]
   cases br E call n o st with
   |none=>rfl
   |some s=>exact BH ds _ _ s h
theorem ama{r:Bool}{sz bytes:Nat}{s x:aX}(hs:notS (rd fr s)=true)(H:SR ds=true):aM E call n (([],⟨d,.app sz bytes s x false r,none⟩)::ds) bw ⟨fr,lh,sh⟩=
  ke E call n ds (bw++ [gG]) (aj E call n [⟨d,.app sz bytes s x false r,none⟩] ⟨fr,lh,sh⟩):=by
 rw[nM (fp:=(ch E call ⟨d,.app sz bytes s x false r,none⟩ ⟨fr,lh,sh⟩).getD gG)]
 ·show ke _ _ _ _ _ _=_
  unfold ke
  cases aj E call n [⟨d,.app sz bytes s x false r,none⟩] ⟨fr,lh,sh⟩with
  |none=>rfl
  |some s=>grind [BH]
 ·intro D
  obtain⟨v,F,hr,I⟩:=qm (q:=jr (d.getD 0) sz bytes (rd fr s) (rd fr x) false r) (by rfl) (by rw[dC];rfl) D
  grind [Od]
end
end Go.Ev
