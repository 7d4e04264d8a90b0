/- A tree evaluator over the model, proved against it (part F): where it answers, the call returns that answer. Conditions: none beyond its theorems' own. -/
import Derived.Test.YtnkgnjecmfkcfaaGreatEvE
set_option linter.unusedSimpArgs false
set_option linter.unusedVariables false
namespace Go.Ev
open Go
theorem akh{x:Bool}:froz (.b x)=true:=nr rfl
theorem aki{k:IntKind}{n:Int}:froz (.i k n)=true:=nr rfl
theorem akj{l:List Nat}:froz (.s l)=true:=nr rfl
theorem K1:froz .nilsl=true:=nr rfl
theorem ab9{cs:List T}{n:Nat}{e:Bool}:froz (.sl cs n e)=true:=nr rfl
theorem H6:froz .nilptr=true:=nr rfl
theorem aca{cs:List T}:froz (.vp cs)=true:=nr rfl
theorem K2:froz .nilmp=true:=nr rfl
theorem acb{a b:List T}:froz (.vm a b)=true:=nr rfl
theorem K3:froz .nilfn=true:=nr rfl
theorem H7{cs:List T}:froz (.agg cs)=cs.all froz1:=nr rfl
theorem Vo{cs:List T}:froz (.tup cs)=cs.all froz1:=nr rfl
theorem acd{f:Nat}{a c:List T}:froz (.fn f a c)=(a.all froz1&&c.all froz1):=nr rfl
theorem ace{x:Bool}:froz1 (.b x)=true:=nr rfl
theorem uG{k:IntKind}{n:Int}:froz1 (.i k n)=true:=nr rfl
theorem EF{l:List Nat}:froz1 (.s l)=true:=nr rfl
theorem H8:froz1 .nilsl=true:=nr rfl
theorem Vp{cs:List T}{n:Nat}{e:Bool}:froz1 (.sl cs n e)=true:=nr rfl
theorem EG:froz1 .nilptr=true:=nr rfl
theorem Vq{cs:List T}:froz1 (.vp cs)=true:=nr rfl
theorem H9:froz1 .nilmp=true:=nr rfl
theorem Vr{a b:List T}:froz1 (.vm a b)=true:=nr rfl
theorem Ia:froz1 .nilfn=true:=nr rfl
theorem P8{cs:List T}:cellsOf (.agg cs)=cs:=nr rfl
theorem acf{x:Bool}:cellsOf (.b x)= [.b x]:=nr rfl
theorem acg{k:IntKind}{n:Int}:cellsOf (.i k n)= [.i k n]:=nr rfl
theorem ach{l:List Nat}:cellsOf (.s l)= [.s l]:=nr rfl
theorem Ib:cellsOf .nilsl= [.nilsl]:=nr rfl
theorem Vt{cs:List T}{n:Nat}{e:Bool}:cellsOf (.sl cs n e)= [.sl cs n e]:=nr rfl
theorem P9{sp:Sp}{a b c d e:Nat}:cellsOf (.isl sp a b c d e)= [.isl sp a b c d e]:=nr rfl
theorem Qa{sp:Sp}{a b c:Nat}:cellsOf (.ptr sp a b c)= [.ptr sp a b c]:=nr rfl
theorem Vu{cs:List T}:cellsOf (.vp cs)= [.vp cs]:=nr rfl
theorem EH:cellsOf .nilptr= [.nilptr]:=nr rfl
theorem Vv{sp:Sp}{a b:Nat}:cellsOf (.mp sp a b)= [.mp sp a b]:=nr rfl
theorem Vw{a b:List T}:cellsOf (.vm a b)= [.vm a b]:=nr rfl
theorem Ic:cellsOf .nilmp= [.nilmp]:=nr rfl
theorem Qb{cs:List T}:noTup (.agg cs)=true:=nr rfl
theorem aci{x:Bool}:noTup (.b x)=true:=nr rfl
theorem acj{k:IntKind}{n:Int}:noTup (.i k n)=true:=nr rfl
theorem ack{l:List Nat}:noTup (.s l)=true:=nr rfl
theorem Ie:noTup .nilsl=true:=nr rfl
theorem Vx{cs:List T}{n:Nat}{e:Bool}:noTup (.sl cs n e)=true:=nr rfl
theorem Qc{sp:Sp}{a b c d e:Nat}:noTup (.isl sp a b c d e)=true:=nr rfl
theorem Qd{sp:Sp}{a b c:Nat}:noTup (.ptr sp a b c)=true:=nr rfl
theorem Vy{cs:List T}:noTup (.vp cs)=true:=nr rfl
theorem EI:noTup .nilptr=true:=nr rfl
theorem Vz{sp:Sp}{a b:Nat}:noTup (.mp sp a b)=true:=nr rfl
theorem VA{a b:List T}:noTup (.vm a b)=true:=nr rfl
theorem If:noTup .nilmp=true:=nr rfl
theorem K4:notS .nilsl=true:=nr rfl
theorem acm{cs:List T}{n:Nat}{e:Bool}:notS (.sl cs n e)=true:=nr rfl
theorem VB{a b c d e:Nat}:notS (.isl .L a b c d e)=true:=nr rfl
theorem acn{a b:Nat}:notS (.mp .L a b)=true:=nr rfl
theorem VC:kH .nilsl=some 0:=nr rfl
theorem aco{cs:List T}{n:Nat}{e:Bool}:kH (.sl cs n e)=some n:=nr rfl
theorem VD{sp:Sp}{a b c d e:Nat}:kH (.isl sp a b c d e)=some d:=nr rfl
theorem VE:lenI .nilsl=some (.i .i64 0):=nr rfl
theorem acp{cs:List T}{n:Nat}{e:Bool}:lenI (.sl cs n e)=some (.i .i64 n):=nr rfl
theorem VF{sp:Sp}{a b c d e:Nat}:lenI (.isl sp a b c d e)=some (.i .i64 d):=nr rfl
theorem VG{x:Bool}:scalar (.b x)=true:=nr rfl
theorem VH{k:IntKind}{n:Int}:scalar (.i k n)=true:=nr rfl
theorem VI{l:List Nat}:scalar (.s l)=true:=nr rfl
theorem EJ:scalar .nilsl=true:=nr rfl
theorem Qe{cs:List T}{n:Nat}{e:Bool}:scalar (.sl cs n e)=false:=nr rfl
theorem K5{cs:List T}:scalar (.agg cs)=false:=nr rfl
section
variable{lh:aE ah}{sh:List ah}{m g off k:Nat}{ag:Bool}
theorem akk{cs:List T}:ZU lh sh (.vp cs) m ag=Ev.part cs 0 m ag:=rfl
theorem av7:ZU lh sh (.ptr .L k g off) m ag=ldE (ab lh k) g off m ag:=rfl
theorem av8:ZU lh sh (.ptr .S k g off) m ag=ldE (aI sh k) g off m ag:=rfl
theorem akl{cs:List T}:faV (.vp cs) off=if off≤cs.length then some (.vp (cs.drop off))else none:=rfl
theorem acq{sp:Sp}{o:Nat}:faV (.ptr sp k g o) off=some (.ptr sp k g (o+off)):=rfl
theorem VJ{cs:List T}:abo (.agg cs) off m ag=Ev.part cs off m ag:=rfl
theorem acr{cs:List T}:Ez (.vp cs)=some (.vp cs):=rfl
theorem VK{sp:Sp}{o:Nat}:Ez (.ptr sp k g o)=some (.ptr sp k g o):=rfl
theorem acs{f:Nat}{a c:List T}:Ez (.fn f a c)=some (.fn f a c):=rfl
theorem VL{r:List T}:abq (.tup r) m=r[m]? :=rfl
theorem acu{l:List Nat}:Nd (.s l)=some (.i .i64 l.length):=rfl
theorem akm{kk r:IntKind}{n:Int}:abl kk (.i r n)=some (.i kk (wr kk n)):=rfl
theorem oK{m k g r off len sz D:Nat}{lh:aE ah}{sh:List ah}{cs:List T}:U5 m lh sh k ⟨r,.cells cs D false⟩ g off len sz=if r=g∧off+len*sz≤cs.length then some (.sl ((cs.drop off).take (len*sz)) len false,[(.L,k,⟨g,.cells cs cs.length false⟩)])else none:=rfl
theorem acv{k g D:Nat}{ks r:List T}{z:Bool}:mpV k ⟨D,.map ks r z⟩ g=if D=g then some (.vm ks r,[(.L,k,⟨g,.map ks r true⟩)])else none:=rfl
theorem Da{sz g r off len D:Nat}{cs:List T}:slE sz ⟨r,.cells cs D false⟩ g off len=if r=g∧off+len*sz≤cs.length then some (len,(cs.drop off).take (len*sz))else none:=rfl
theorem Ax{g r off len sz D bytes F:Nat}{p:Nat×List T}{cs:List T}:P1 lh k ⟨r,.cells cs F false⟩ g off len sz D bytes p=if D=sz∧off=0∧(len+p.1)*bytes≤roomy∧r=g∧len*sz=cs.length then some (.isl .L k (g+1) 0 (len+p.1) sz,iR lh k ⟨g+1,.cells (cs++p.2) F false⟩)else none:=rfl
theorem Ay{d sz bytes n:Nat}{cs:List T}:At lh d sz bytes .nilsl (n+1,cs)=if(n+1)*bytes≤roomy then some (.isl .L d ((ab lh d).g+1) 0 (n+1) sz,iR lh d ⟨(ab lh d).g+1,.cells cs 0 false⟩)else none:=by
 unfold At;rw[if_neg (Nat.succ_ne_zero n)]
theorem acw{d sz bytes n len:Nat}{cs J8:List T}:At lh d sz bytes (.sl J8 len true) (n+1,cs)=if J8.length=len*sz∧(len+(n+1))*bytes≤roomy then some (.isl .L d ((ab lh d).g+1) 0 (len+(n+1)) sz,iR lh d ⟨(ab lh d).g+1,.cells (J8++cs) 0 false⟩)else none:=by
 unfold At;rw[if_neg (Nat.succ_ne_zero n)]
theorem Ig{d sz r bytes n g off len:Nat}{cs:List T}:At lh d sz bytes (.isl .L k g off len r) (n+1,cs)=P1 lh k (ab lh k) g off len sz r bytes (n+1,cs):=by
 unfold At;rw[if_neg (Nat.succ_ne_zero n)]
end
theorem jH{α:Type}{f:α→List T}{sz:Nat}(r: ∀x,(f x).length=sz): ∀xs:List α,(xs.flatMap f).length=xs.length*sz
 | []=>by simp
 |x::xs=>by simp[List.flatMap_cons,r,jH r xs,Nat.succ_mul,Nat.add_comm]
theorem Db{α:Type}{f:α→List T}{sz:Nat}(r: ∀x,(f x).length=sz): ∀(xs:List α) (k:Nat) (hk:k<xs.length),(xs.flatMap f).drop (k*sz)=f xs[k]++(xs.drop (k+1)).flatMap f
 | [],k,hk=>by simp at hk
 |x::xs,0,hk=>by grind
 |x::xs,k+1,hk=>by
  have h1:(k+1)*sz=(f x).length+k*sz:=by rw[r,Nat.succ_mul,Nat.add_comm]
  have h2:List.drop ((f x).length+k*sz) (f x)= []:=List.drop_eq_nil_of_le zZ
  rw[List.flatMap_cons,h1,List.drop_append,h2,Nat.add_sub_cancel_left,Db r xs k (by simpa using hk)]
  rfl
def ints(xs:List Int):List T:=xs.map (T.i .i64)
theorem dR(xs:List Int):(ints xs).length=xs.length:=by simp[ints]
theorem ll(xs:List Int)(k:Nat)(hk:k<xs.length):(ints xs).drop k=T.i .i64 xs[k]::(ints xs).drop (k+1):=by
 rw[List.drop_eq_getElem_cons (by rw[dR];exact hk)];simp[ints]
def IsSl(v:T)(n:Nat)(cs:List T):Prop:=(v= .nilsl∧n=0∧cs= [])∨ ∃ex,v= .sl cs n ex
theorem IsSl.len{v:T}{n:Nat}{cs:List T}(h:IsSl v n cs):kH v=some n:=by
 rcases h with⟨rfl,rfl,_⟩|⟨ex,rfl⟩ <;> rfl
theorem IsSl.lenI{v:T}{n:Nat}{cs:List T}(h:IsSl v n cs):lenI v=some (.i .i64 (n:Int)):=abT h.len
theorem IsSl.froz1{v:T}{n:Nat}{cs:List T}(h:IsSl v n cs):froz1 v=true:=by
 rcases h with⟨rfl,_,_⟩|⟨ex,rfl⟩ <;> rfl
theorem IsSl.froz{v:T}{n:Nat}{cs:List T}(h:IsSl v n cs):froz v=true:=by
 rcases h with⟨rfl,_,_⟩|⟨ex,rfl⟩ <;> rfl
theorem IsSl.cells{v:T}{n:Nat}{cs:List T}(h:IsSl v n cs):cellsOf v= [v]:=by
 rcases h with⟨rfl,_,_⟩|⟨ex,rfl⟩ <;> rfl
theorem IsSl.noTup{v:T}{n:Nat}{cs:List T}(h:IsSl v n cs):noTup v=true:=by
 rcases h with⟨rfl,_,_⟩|⟨ex,rfl⟩ <;> rfl
theorem IsSl.ia{v:T}{n sz k:Nat}{cs:List T}{kk:IntKind}(h:IsSl v n cs)(hc:cs.length=n*sz)(hk:k<n):iaV v (.i kk (k:Int)) sz=some (.vp (cs.drop (k*sz))):=by
 rcases h with⟨rfl,rfl,_⟩|⟨ex,rfl⟩
 ·omega
 grind [cT,Int.toNat_natCast,Nat.mul_le_mul_right]
theorem IsSl.slC{v:T}{n sz:Nat}{cs:List T}{lh:aE ah}{sh:List ah}(h:IsSl v n cs)(hc:cs.length=n*sz):slC lh sh sz v=some (n,cs):=by
 rcases h with⟨rfl,rfl,rfl⟩|⟨ex,rfl⟩
 ·rfl
 ·rw[ED,if_pos hc]
end Go.Ev
namespace Go.Ev
open Go
section
variable(E:Env)(n:Nat)(b:ak)(fr:Fr)(lh:aE ah)(sh:List ah)
noncomputable def pz:Fr:=match DC E n (.loop b) ⟨fr,lh,sh⟩with|some (_,st)=>st.fr|none=>fr
noncomputable def iu:aE ah:=match DC E n (.loop b) ⟨fr,lh,sh⟩with|some (_,st)=>st.lh|none=>lh
noncomputable def jw:List ah:=match DC E n (.loop b) ⟨fr,lh,sh⟩with|some (_,st)=>st.sh|none=>sh
end
section
variable{E:Env}{n:Nat}{b:ak}{fr:Fr}{lh:aE ah}{sh:List ah}{o:Out}
theorem VM{s:Nat}(h:(bX (.loop b)).contains s=false):aa (pz E n b fr lh sh) s=aa fr s:=by
 unfold pz
 cases r:DC E n (.loop b) ⟨fr,lh,sh⟩with
 |none=>rfl
 |some p=>obtain⟨o,st⟩:=p;exact fV r s h
def dO:List Nat→Nat
 | []=>0
 |s::r=>(1 <<< s) ||| dO r
theorem EL(s:Nat): ∀l:List Nat,s∈l→(dO l).testBit s=true
 | [],h=>by simp at h
 |x::xs,h=>by
  rw[dO,Nat.testBit_or]
  rcases List.mem_cons.1 h with h|h
  ·grind
  ·rw[EL s xs h];simp
theorem Dc{s:Nat}(h:(dO (bX (.loop b)) >>> s)%2=0):aa (pz E n b fr lh sh) s=aa fr s:=by
 refine VM ?_
 cases hc:(bX (.loop b)).contains s with
 |false=>rfl
 |true=>
  have h1:=EL s _ (List.contains_iff_mem.1 hc)
  grind [Nat.testBit]
theorem Qf{P:Fr→aE ah→List ah→Prop}(h: ∃r aU D,DC E n (.loop b) ⟨fr,lh,sh⟩=some (o,⟨r,aU,D⟩)∧P r aU D):
  DC E n (.loop b) ⟨fr,lh,sh⟩=some (o,⟨pz E n b fr lh sh,iu E n b fr lh sh,jw E n b fr lh sh⟩)∧P (pz E n b fr lh sh) (iu E n b fr lh sh) (jw E n b fr lh sh):=by
 grind [pz,iu,jw]
end
end Go.Ev
namespace Go.Ev
open Go
theorem fL(m:Nat)(D:m≤62)(a:Int):Ev.bin .and (.i .i64 a) (.i .i64 (2 ^ m-1))=some (.i .i64 (a%2 ^ m)):=by
 have h2:(2:Int) ^ m=((2 ^ m:Nat):Int):=by norm_cast
 have Uv:0<2 ^ m:=Nat.two_pow_pos m
 have F:2 ^ m≤2 ^ 62:=Nat.pow_le_pow_right zZ D
 have VN:(BitVec.ofInt 64 ((2:Int) ^ m-1)).toNat=2 ^ m-1:=by
  grind
 have r:(BitVec.ofInt 64 a &&& BitVec.ofInt 64 ((2:Int) ^ m-1)).toNat=(a%2 ^ m).toNat:=by
  rw[BitVec.toNat_and,VN,Nat.and_two_pow_sub_one_eq_mod,BitVec.toNat_ofInt]
  have H:0≤a%((2 ^ 64:Nat):Int):=Int.emod_nonneg _ zZ
  have h4:(a%((2 ^ 64:Nat):Int))%((2 ^ m:Nat):Int)=a%((2 ^ m:Nat):Int):=Int.emod_emod_of_dvd a (by
   have:(2 ^ m:Nat)∣2 ^ 64:=Nat.pow_dvd_pow 2 zZ
   exact Int.natCast_dvd_natCast.2 this)
  have h5:(((a%((2 ^ 64:Nat):Int)).toNat%2 ^ m:Nat):Int)=a%((2 ^ m:Nat):Int):=by
   grind
  grind
 have J:(IntKind.i64).bits=64:=rfl
 simp only[Ev.bin,if_true,lR]
 have ZT:0≤a%2 ^ m:=by rw[h2];exact Int.emod_nonneg _ zZ
 have I:a%2 ^ m<2 ^ m:=by rw[h2];exact Int.emod_lt_of_pos _ zZ
 grind [IntKind.wrap]
section
variable{a:Int}
theorem and_1:Ev.bin .and (.i .i64 a) (.i .i64 1)=some (.i .i64 (a%2)):=fL 1 zZ a
theorem and_3:Ev.bin .and (.i .i64 a) (.i .i64 3)=some (.i .i64 (a%4)):=fL 2 zZ a
theorem av9:Ev.bin .and (.i .i64 a) (.i .i64 7)=some (.i .i64 (a%8)):=fL 3 zZ a
theorem akn:Ev.bin .and (.i .i64 a) (.i .i64 15)=some (.i .i64 (a%16)):=fL 4 zZ a
theorem ako:Ev.bin .and (.i .i64 a) (.i .i64 31)=some (.i .i64 (a%32)):=fL 5 zZ a
theorem akp:Ev.bin .and (.i .i64 a) (.i .i64 63)=some (.i .i64 (a%64)):=fL 6 zZ a
theorem acx:Ev.bin .and (.i .i64 a) (.i .i64 127)=some (.i .i64 (a%128)):=fL 7 zZ a
theorem acy:Ev.bin .and (.i .i64 a) (.i .i64 255)=some (.i .i64 (a%256)):=fL 8 zZ a
theorem acz:Ev.bin .and (.i .i64 a) (.i .i64 511)=some (.i .i64 (a%512)):=fL 9 zZ a
theorem VO:Ev.bin .and (.i .i64 a) (.i .i64 1023)=some (.i .i64 (a%1024)):=fL 10 zZ a
theorem Qg:Ev.bin .and (.i .i64 a) (.i .i64 65535)=some (.i .i64 (a%65536)):=fL 16 zZ a
theorem Nq{k k':IntKind}{b:Int}:Ev.bin .shr (.i k a) (.i k' b)=if b<0 then none else some (.i k (a.fdiv (2 ^ (min b.toNat k.bits)))):=by
 simp only[Ev.bin,zG]
theorem eM{k':IntKind}{b:Nat}(h:b≤64):Ev.bin .shr (.i .i64 a) (.i k' (b:Int))=some (.i .i64 (a/2 ^ b)):=by
 rw[Nq,if_neg zZ,Int.toNat_natCast]
 have:min b (IntKind.i64).bits=b:=Nat.min_eq_left h
 grind
theorem awa{k':IntKind}:Ev.bin .shr (.i .i64 a) (.i k' 3)=some (.i .i64 (a/8)):=eM (b:=3) zZ
theorem awb{k':IntKind}:Ev.bin .shr (.i .i64 a) (.i k' 4)=some (.i .i64 (a/16)):=eM (b:=4) zZ
theorem awc{k':IntKind}:Ev.bin .shr (.i .i64 a) (.i k' 5)=some (.i .i64 (a/32)):=eM (b:=5) zZ
theorem awd{k':IntKind}:Ev.bin .shr (.i .i64 a) (.i k' 2)=some (.i .i64 (a/4)):=eM (b:=2) zZ
theorem awe{k':IntKind}:Ev.bin .shr (.i .i64 a) (.i k' 0)=some (.i .i64 a):=by have:=eM (a:=a) (k':=k') (b:=0) zZ;simpa using this
theorem awf{k':IntKind}:Ev.bin .shr (.i .i64 a) (.i k' 6)=some (.i .i64 (a/64)):=eM (b:=6) zZ
theorem awg{k':IntKind}:Ev.bin .shr (.i .i64 a) (.i k' 8)=some (.i .i64 (a/256)):=eM (b:=8) zZ
theorem akq{k':IntKind}:Ev.bin .shr (.i .i64 a) (.i k' 14)=some (.i .i64 (a/16384)):=eM (b:=14) zZ
theorem akr{k':IntKind}:Ev.bin .shr (.i .i64 a) (.i k' 16)=some (.i .i64 (a/65536)):=eM (b:=16) zZ
theorem aks{k':IntKind}:Ev.bin .shr (.i .i64 a) (.i k' 18)=some (.i .i64 (a/262144)):=eM (b:=18) zZ
theorem akt{k':IntKind}:Ev.bin .shr (.i .i64 a) (.i k' 20)=some (.i .i64 (a/1048576)):=eM (b:=20) zZ
theorem aku{k':IntKind}:Ev.bin .shr (.i .i64 a) (.i k' 21)=some (.i .i64 (a/2097152)):=eM (b:=21) zZ
theorem akv{k':IntKind}:Ev.bin .shr (.i .i64 a) (.i k' 24)=some (.i .i64 (a/16777216)):=eM (b:=24) zZ
theorem akw{k':IntKind}:Ev.bin .shr (.i .i64 a) (.i k' 25)=some (.i .i64 (a/33554432)):=eM (b:=25) zZ
end
theorem mc{n:Int}(h:0≤n∧n≤18446744073709551615):wr .u64 n=n:=by grind [wr,lo,hi]
theorem dZ{a b:Int}(h:0≤a):a.tmod b=a%b:=Int.tmod_eq_emod_of_nonneg h
end Go.Ev
namespace Go.Ev
open Go
theorem Az(x:FP):apart x fF=true:=by
 obtain⟨a,r,w⟩:=x
 simp[apart,eu,fF,Gn]
theorem K6(x:FP):apart fF x=true:=by
 obtain⟨a,r,w⟩:=x
 simp[apart,eu,fF,Gn]
theorem VP{r D:List (Sp×Nat)}:apart ⟨false,r,[]⟩ ⟨false,D,[]⟩=true:=Av ⟨rfl,rfl⟩ ⟨rfl,rfl⟩
theorem VQ{r D w w':List (Sp×Nat)}:apart ⟨false,r,w⟩ ⟨false,D,w'⟩=(eu w D&&eu w w'&&eu r w'):=by
 simp[apart]
theorem K7{r:List (Sp×Nat)}:eu [] r=true:=rfl
theorem Ih{x:Sp×Nat}{xs r:List (Sp×Nat)}:eu (x::xs) r=(!r.contains x&&eu xs r):=rfl
theorem acA{x:Sp×Nat}:([]:List (Sp×Nat)).contains x=false:=rfl
theorem VR{a c:Sp}{b d:Nat}{ys:List (Sp×Nat)}:((c,d)::ys).contains (a,b)=((decide (a=c)&&decide (b=d))||ys.contains (a,b)):=by
 rw[List.contains_cons]
 have:((a,b)==(c,d))=(decide (a=c)&&decide (b=d)):=by
  cases a <;> cases c <;> by_cases h:b=d <;> simp[h]
 rw[this]
def cY:lX→Bool
 | .mv _| .pick .. | .bin .. | .eq .. | .un .. | .cvi .. | .b2s _| .mkfn .. | .build .. | .slS .. | .fa .. | .fld .. | .ia .. | .iaA .. | .ixS .. | .ixA .. | .ext .. | .lenS _| .lenV _| .lenC _| .mm .. | .nck _=>true
 | .slV _ _ _ _ none=>true
 |_=>false
theorem acB{x:aP}:cY (.mv x)=true:=nr rfl
theorem Qh{c a b:aP}:cY (.pick c a b)=true:=nr rfl
theorem VS{o:BinOp}{x y:aP}:cY (.bin o x y)=true:=nr rfl
theorem acC{g:Bool}{k:EK}{x y:aP}:cY (.eq g k x y)=true:=nr rfl
theorem acD{o:UnOp}{x:aP}:cY (.un o x)=true:=nr rfl
theorem VT{k:IntKind}{x:aP}:cY (.cvi k x)=true:=nr rfl
theorem jI{x:aP}:cY (.b2s x)=true:=nr rfl
theorem Qi{f:Nat}{a c:List aP}:cY (.mkfn f a c)=true:=nr rfl
theorem K8{z:List T}{r:List (Nat×Nat×aP)}:cY (.build z r)=true:=nr rfl
theorem VU{x:aP}{l h:Option aP}:cY (.slS x l h)=true:=nr rfl
theorem acE{x:aP}{o:Nat}:cY (.fa x o)=true:=nr rfl
theorem VV{x:aP}{o m:Nat}{g:Bool}:cY (.fld x o m g)=true:=nr rfl
theorem acF{x y:aP}{m:Nat}:cY (.ia x y m)=true:=nr rfl
theorem VW{x y:aP}{m k:Nat}:cY (.iaA x y m k)=true:=nr rfl
theorem VY{x y:aP}:cY (.ixS x y)=true:=nr rfl
theorem VZ{x y:aP}{m k:Nat}{g:Bool}:cY (.ixA x y m k g)=true:=nr rfl
theorem V0{x:aP}{j:Nat}:cY (.ext x j)=true:=nr rfl
theorem Qj{x:aP}:cY (.lenS x)=true:=nr rfl
theorem Qk{x:aP}:cY (.lenV x)=true:=nr rfl
theorem Ql{m:Nat}:cY (.lenC m)=true:=nr rfl
theorem acG{g:Bool}{as:List aP}:cY (.mm g as)=true:=nr rfl
theorem V1{x:aP}:cY (.nck x)=true:=nr rfl
theorem V2{m:Nat}{x:aP}{l h:Option aP}:cY (.slV m x l h none)=true:=nr rfl
def Q.plain:Q zF→Prop
 | .ret (.val _ r)=>r= []
 | .fail=>True
 | .rd _ _ _=>False
 | .new _=>False
theorem Q.plain_run{h:Sp→Nat→ah}{nx:Nat}: ∀(q:Q zF),q.plain→ ∀{v:T} {r:List Up},q.run h nx=some (.val v r)→r= []∧q.asks h nx=false∧q.log h nx= []
 | .ret (.val _ _),hc,v,r,hr=>by simp[Q.run]at hr;obtain⟨rfl,rfl⟩:=hr;exact⟨hc,rfl,rfl⟩
 | .fail,hc,v,r,hr=>by simp[Q.run]at hr
 | .rd sp k f,hc,v,r,hr=>hc.elim
 | .new f,hc,v,r,hr=>hc.elim
theorem fW{o:Option T}:(val o).plain:=by cases o <;> simp[val,Q.plain]
theorem V3{d:Nat}{ρ:aP→T}{op:lX}(h:cY op=true):(bt d ρ op).plain∧bw ρ op=none:=by
 refine⟨?_,by cases op <;> first|rfl|(simp[cY]at h)⟩
 cases op with
 |mv x=>exact rfl
 |pick c a b=>simp only[bt];split <;> simp[Q.plain]
 |bin op x y=>exact fW
 |eq neg k x y=>exact fW
 |un op x=>exact fW
 |cvi k x=>simp only[bt];split <;> simp[Q.plain]
 |b2s x=>simp only[bt];repeat' split
         all_goals trivial
 |mkfn f a c=>exact rfl
 |build z F=>
  simp only[bt]
  by_cases D:(F.all fun p=>decide ((cellsOf (ρ p.2.2)).length=p.2.1)&&noTup (ρ p.2.2))=true
  ·rw[if_pos D];exact fW
  ·rw[if_neg D];trivial
 |slS x l h=>
  simp only[bt]
  split
  ·split
   ·split <;> simp[Q.plain]
   ·trivial
  ·trivial
 |fa x off=>
  simp only[bt]
  split
  ·split <;> simp[Q.plain]
  ·exact rfl
  ·trivial
 |fld x off m ag=>
  simp only[bt]
  split
  ·exact fW
  ·trivial
 |ia x r sz=>
  simp only[bt]
  split
  ·split <;> simp[Q.plain]
  ·split <;> simp[Q.plain]
  ·trivial
 |iaA x r len sz=>
  simp only[bt]
  split
  ·split <;> simp[Q.plain]
  ·split <;> simp[Q.plain]
  ·trivial
 |ixS x r=>
  simp only[bt]
  split
  ·split <;> simp[Q.plain]
  ·trivial
 |ixA x r len sz ag=>
  simp only[bt]
  split
  ·split
   ·exact fW
   ·trivial
  ·trivial
 |ext x j=>
  simp only[bt]
  split
  ·exact fW
  ·trivial
 |lenS x=>simp only[bt];split <;> simp[Q.plain]
 |lenV x=>exact fW
 |lenC m=>exact rfl
 |mm b as=>
  simp only[bt]
  split
  ·exact fW
  ·trivial
 |nck x=>simp only[bt];split <;> simp[Q.plain]
 |slV sz x l h H=>
  cases H with
  |some m=>simp[cY]at h
  |none=>
   simp only[bt]
   split
   ·trivial
   ·split
    ·unfold xp
     split
     ·split <;> simp[Q.bind,Q.plain]
     ·split <;> simp[Q.bind,Q.plain]
     ·split <;> simp[Q.bind,Q.plain]
     ·trivial
    ·rename_i I;exact absurd I zP
    ·trivial
 |_=>simp[cY]at h
def ke(E:Env)(call:jB)(n:Nat)(ds:List (List Nat×aF))(bo:List FP)(x:Option St):Option St:=x.bind (aK E call n ds bo)
def meets(u:List Nat)(bo:List FP)(fp:FP):Bool:=u.all fun i=>apart (aH ⟨true,[],[]⟩ bo i) fp
section
variable{E:Env}{call:jB}{n:Nat}{fr:Fr}{lh:aE ah}{sh:List ah}{ds:List (List Nat×aF)}{bo:List FP}{u:List Nat}{d:Option Nat}
theorem acH{st:St}:ke E call n ds bo (some st)=aK E call n ds bo st:=rfl
theorem acI:ke E call n ds bo none=none:=rfl
theorem akx{c:Prop}[Decidable c]{x y:Option St}:ke E call n ds bo (if c then x else y)=if c then ke E call n ds bo x else ke E call n ds bo y:=by split <;> rfl
theorem Qm{fp:FP}:meets [] bo fp=true:=rfl
theorem K9{i:Nat}{fp:FP}:meets (i::u) bo fp=(apart (aH ⟨true,[],[]⟩ bo i) fp&&meets u bo fp):=rfl
theorem qe:meets u bo fF=true:=by
 unfold meets
 rw[List.all_eq_true]
 intro i _
 exact Az _
theorem Qn{st:St}:DC E n (.draws ds) st=(aK E (ae E) n ds [] st).map fun r=>(.nrm,r):=HZ
theorem mJ{o:aF}{fp:FP}{st:St}(h:bg E call n o st≠none→bL E call o st=some fp):
  aK E call n ((u,o)::ds) bo st=if meets u bo fp=true then ke E call n ds (bo++ [fp]) (ai E call n [o] st)else none:=by
 simp only[aK]
 unfold meets ke
 cases r:bg E call n o st with
 |none=>
  have h1:ai E call n [o] st=none:=by simp only[ai,r]
  rw[h1]
  cases bL E call o st with
  |none=>simp
  |some D=>simp
 |some s=>
  have h1:ai E call n [o] st=some s:=by simp only[ai,r]
  rw[h1,h (by rw[r];simp)]
  rfl
theorem pD{op:lX}{st:St}{q:Q zF}(H:bw st.rho op=none)(J:bt (d.getD 0) st.rho op=q)(F:bg E call n ⟨d,op,none⟩ st≠none):
  ∃v D,q.run st.get st.sh.length=some (.val v D)∧((q.asks st.get st.sh.length||inB st D)=true→bL E call ⟨d,op,none⟩ st=some ⟨q.asks st.get st.sh.length,q.log st.get st.sh.length,cS D⟩):=by
 subst J
 unfold bg at F
 simp only[H]at F
 cases I:(bt (d.getD 0) st.rho op).run st.get st.sh.length with
 |none=>simp only[I]at F;exact absurd rfl F
 |some r=>
  obtain⟨v,D⟩:=r
  refine⟨v,D,rfl,fun K=> ?_⟩
  unfold bL
  simp only[H,I]
  rw[if_pos K]
theorem aky{op:lX}(H:cY op=true):aK E call n ((u,⟨d,op,none⟩)::ds) bo ⟨fr,lh,sh⟩=ke E call n ds (bo++ [fF]) (ai E call n [⟨d,op,none⟩] ⟨fr,lh,sh⟩):=by
 rw[mJ (fp:=fF),qe,if_pos rfl]
 intro D
 obtain⟨I,J⟩:=V3 (d:=d.getD 0) (ρ:=(St.mk fr lh sh).rho) H
 unfold bg at D
 unfold bL
 simp only[J]at D ⊢
 cases F:(bt (d.getD 0) (St.mk fr lh sh).rho op).run (St.mk fr lh sh).get sh.length with
 |none=>simp only[F]at D;exact absurd rfl D
 |some r=>
  obtain⟨v,K⟩:=r
  obtain⟨rfl,N,O⟩:=Q.plain_run _ I F
  simp only[N,O,inB,List.all_nil,Bool.or_true,if_true,cS,List.map_nil]
  rfl
def mf:T→List (Sp×Nat)
 | .ptr sp k _ _=> [(sp,k)]
 |_=> []
theorem V4{cs:List T}:mf (.vp cs)= []:=rfl
theorem Qo{sp:Sp}{k g off:Nat}:mf (.ptr sp k g off)= [(sp,k)]:=rfl
theorem Q.log_bind{α β:Type}{h:Sp→Nat→ah}{nx:Nat}{f:α→Q β}(r: ∀a,(f a).log h nx= []): ∀q:Q α,(q.bind f).log h nx=q.log h nx
 | .ret a=>r a
 | .fail=>rfl
 | .rd sp k g=>by show(sp,k)::((g (h sp k)).bind f).log h nx=(sp,k)::(g (h sp k)).log h nx;rw[Q.log_bind r (g (h sp k))]
 | .new g=>Q.log_bind r (g nx)
theorem aB1{x:aP}{m:Nat}{ag:Bool}:aK E call n ((u,⟨d,.ld x m ag,none⟩)::ds) bo ⟨fr,lh,sh⟩=
  if meets u bo ⟨false,mf (rd fr x),[]⟩=true then ke E call n ds (bo++ [⟨false,mf (rd fr x),[]⟩]) (ai E call n [⟨d,.ld x m ag,none⟩] ⟨fr,lh,sh⟩)else none:=by
 refine mJ ?_
 intro D
 obtain⟨I,J⟩:=EE (d:=d.getD 0) (ρ:=(St.mk fr lh sh).rho) (op:= .ld x m ag) rfl
 unfold bg at D
 unfold bL
 simp only[J]at D ⊢
 cases H:(bt (d.getD 0) (St.mk fr lh sh).rho (.ld x m ag)).run (St.mk fr lh sh).get sh.length with
 |none=>simp only[H]at D;exact absurd rfl D
 |some r=>
  obtain⟨v,K⟩:=r
  obtain⟨rfl,N⟩:=Q.calm_run _ I H
  have O:(bt (d.getD 0) (St.mk fr lh sh).rho (.ld x m ag)).log (St.mk fr lh sh).get sh.length=mf (rd fr x):=by
   rw[dh]
   simp only[bt]
   rw[Q.log_bind (fun a=>rfl)]
   unfold D6 mf
   cases hx:rd fr x <;> try rfl
   ·simp only[];generalize Ev.part _ _ _ _=o;cases o <;> rfl
   ·rename_i sp k g off
    simp only[Q.log]
    congr 1
    generalize (St.mk fr lh sh).get sp k=e
    obtain⟨R,ob⟩:=e
    by_cases F:R=g
    ·cases ob with
     |cells cs U bx=>simp only[F,if_true];generalize Ev.part _ _ _ _=o;cases o <;> rfl
     |_=>simp only[F,if_true];rfl
    ·simp only[F,if_false];rfl
  simp only[N,O,inB,List.all_nil,Bool.or_true,if_true,cS,List.map_nil]
theorem Dd{keep:Bool}{m:Nat}{h:Sp→Nat→ah}{nx:Nat}: ∀(ts:List T),ts.all froz=true→(bf (fz keep (m+2)) ts).log h nx= []
 | [],_=>rfl
 |t::ts,r=>by
  simp only[List.all_cons,Bool.and_eq_true]at r
  simp only[bf,jv r.1,Q.bind]
  rw[Q.log_bind (fun a=>rfl),Dd ts r.2]
theorem aiC{f:Nat}{af:aj}{as:List aP}(H:E.fn f=some af)(I:af.eff=false)(J:af.own=none)(F:(as.map (rd fr)).all froz=true):
  aK E call n ((u,⟨d,.callf f as,none⟩)::ds) bo ⟨fr,lh,sh⟩=ke E call n ds (bo++ [fF]) (ai E call n [⟨d,.callf f as,none⟩] ⟨fr,lh,sh⟩):=by
 rw[mJ (fp:=fF),qe,if_pos rfl]
 intro D
 unfold bg at D
 unfold bL
 have K:bw (St.mk fr lh sh).rho (.callf f as)=some (some (f,as.map (rd fr))):=by rw[dh];rfl
 simp only[K]at D ⊢
 rw[Hp H I J F]at D
 unfold ev
 have h1:(bf (fz af.eff aJ) (as.map (rd fr))).run (St.mk fr lh sh).get sh.length=some (as.map (rd fr),[]):=by
  have:=uC (lh:=lh) (sh:=sh) (keep:=af.eff) F
  unfold yn at this
  rw[lE];exact this
 simp only[H]
 rw[h1]
 simp only[inB,List.all_nil,Bool.not_true,Bool.false_eq_true,if_false,I,J]
 cases hc:call f (as.map (rd fr)) []with
 |none=>rw[hc]at D;exact absurd rfl D
 |some r=>
  simp only[cS,List.map_nil,ite_self]
  have:(bf (fz false aJ) (as.map (rd fr))).log (St.mk fr lh sh).get sh.length= []:=Dd _ F
  rw[this];rfl
theorem awh{z:List T}{len:Nat}{r:List (Nat×aP)}(I:(r.map fun p=>rd fr p.2).all froz=true):
  aK E call n ((u,⟨d,.bsl z len r,none⟩)::ds) bo ⟨fr,lh,sh⟩=ke E call n ds (bo++ [fF]) (ai E call n [⟨d,.bsl z len r,none⟩] ⟨fr,lh,sh⟩):=by
 rw[mJ (fp:=fF),qe,if_pos rfl]
 intro D
 have h1:bf (fz false aJ) (r.map fun p=>rd fr p.2)= .ret (r.map (fun p=>rd fr p.2),[]):=by
  have: ∀(ts:List T),ts.all froz=true→bf (fz false aJ) ts= .ret (ts,[]):=by
   intro ts
   induction ts with
   |nil=>intro _;rfl
   |cons t ts ih=>
    intro F
    simp only[List.all_cons,Bool.and_eq_true]at F
    rw[bf,ih F.2]
    unfold aJ
    rw[jv F.1];rfl
  exact this _ I
 obtain⟨v,J,hr,H⟩:=pD (q:=if((r.map fun p=>rd fr p.2).all fun v=>decide ((cellsOf v).length=z.length)&&noTup v)=true then(match kg (repl z len) ((r.map fun p=>p.1*z.length).zip ((r.map fun p=>rd fr p.2).map cellsOf))with|some cs=>Q.ret (.val (.sl cs len true) [])|none=> .fail)else .fail) (by rfl) (by rw[dh];simp only[bt];rw[h1];rfl) D
 split at hr
 ·split at hr
  ·simp[Q.run]at hr
   obtain⟨rfl,rfl⟩:=hr
   rename_i K _ _ N
   rw[if_pos K,N]at H
   exact H rfl
  ·simp[Q.run]at hr
 ·simp[Q.run]at hr
theorem acJ{r:Nat}{z:List T}:aK E call n ((u,⟨some r,.alloc z false,none⟩)::ds) bo ⟨fr,lh,sh⟩=
  if meets u bo ⟨false,[(.L,r)],[(.L,r)]⟩=true then ke E call n ds (bo++ [⟨false,[(.L,r)],[(.L,r)]⟩]) (ai E call n [⟨some r,.alloc z false,none⟩] ⟨fr,lh,sh⟩)else none:=
 mJ fun _=>rfl
theorem akz{r:Nat}{z:List T}{bytes:Nat}{x:aP}:aK E call n ((u,⟨some r,.mksl z bytes x false,none⟩)::ds) bo ⟨fr,lh,sh⟩=
  if meets u bo ⟨false,[(.L,r)],[(.L,r)]⟩=true then ke E call n ds (bo++ [⟨false,[(.L,r)],[(.L,r)]⟩]) (ai E call n [⟨some r,.mksl z bytes x false,none⟩] ⟨fr,lh,sh⟩)else none:=by
 refine mJ fun D=> ?_
 cases I:asNat (rd fr x)with
 |none=>
  obtain⟨v,F,hr,H⟩:=pD (q:= .fail) (by rfl) (by rw[dh];simp only[bt,I]) D
  simp[Q.run]at hr
 |some k=>
  obtain⟨v,F,hr,H⟩:=pD (q:=if k*bytes≤roomy&&k≤roomy then iW r false (.cells (repl z k) 0 (RG z)) (fun sp k' g=> .isl sp k' g 0 k z.length)else .fail) (by rfl) (by rw[dh];simp only[bt,I];rfl) D
  split at hr
  ·rename_i J
   rw[if_pos J]at H
   simp[iW,Q.run]at hr
   obtain⟨rfl,rfl⟩:=hr
   exact H rfl
  ·simp[Q.run]at hr
def acK:T→Bool
 | .ptr .L .. =>true
 |_=>false
theorem V5{k g off:Nat}:acK (.ptr .L k g off)=true:=nr rfl
theorem aB2{x v:aP}{m:Nat}(hx:acK (rd fr x)=true)(K:froz (rd fr v)=true):aK E call n ((u,⟨none,.st x v m,none⟩)::ds) bo ⟨fr,lh,sh⟩=
  if meets u bo ⟨false,mf (rd fr x),mf (rd fr x)⟩=true then ke E call n ds (bo++ [⟨false,mf (rd fr x),mf (rd fr x)⟩]) (ai E call n [⟨none,.st x v m,none⟩] ⟨fr,lh,sh⟩)else none:=by
 refine mJ fun F=> ?_
 cases D:rd fr x with
 |ptr sp k g off=>
  cases sp with
  |S=>rw[D]at hx;simp[acK]at hx
  |L=>
   by_cases J:(decide ((cellsOf (rd fr v)).length≠m)|| !noTup (rd fr v))=true
   ·obtain⟨w,I,hr,r⟩:=pD (q:= .fail) (by rfl) (by rw[dh];simp only[bt,mY,D];rw[if_pos J]) F
    simp[Q.run]at hr
   ·obtain⟨w,I,hr,r⟩:=pD (q:= .rd .L k (abw k g off m (rd fr v))) (by rfl) (by rw[dh];simp only[bt,mY,D];rw[if_neg J];rfl) F
    simp only[Q.run,Q.log,Q.asks,Nb]at hr r
    generalize ab lh k=e at hr r
    obtain⟨N,ob⟩:=e
    unfold abw at hr r
    by_cases H:N=g
    ·cases ob with
     |none=>simp[H,Q.run]at hr
     |map ks R z=>simp[H,Q.run]at hr
     |cells cs U bx=>
      simp only[H,if_true]at hr r
      split at hr
      ·rename_i hc
       rw[if_pos hc]at r
       cases bx with
       |true=>
        simp[Q.run]at hr
        obtain⟨rfl,rfl⟩:=hr
        exact r rfl
       |false=>
        unfold aJ at hr r
        simp only[Bool.false_and,Bool.false_eq_true,if_false]at hr r
        rw[jv K]at hr r
        simp only[Q.bind]at hr r
        split at hr
        ·simp[Q.run]at hr
        ·rename_i O
         rw[if_neg O]at r
         simp[Q.run]at hr
         obtain⟨rfl,rfl⟩:=hr
         exact r rfl
      ·simp[Q.run]at hr
    ·simp only[H,if_false,Q.run]at hr
     cases hr
 |_=>rw[D]at hx;simp[acK]at hx
theorem Nr{op:lX}{j:Nat}{w:Bool}(h:aa fr j= .b w):aK E call n ((u,⟨d,op,some (j,w)⟩)::ds) bo ⟨fr,lh,sh⟩=aK E call n ((u,⟨d,op,none⟩)::ds) bo ⟨fr,lh,sh⟩:=by
 simp only[aK,bL,bg,h,if_true]
theorem V6{op:lX}{j:Nat}(h:aa fr j= .b true):aK E call n ((u,⟨d,op,some (j,true)⟩)::ds) bo ⟨fr,lh,sh⟩=aK E call n ((u,⟨d,op,none⟩)::ds) bo ⟨fr,lh,sh⟩:=Nr h
theorem V7{op:lX}{j:Nat}(h:aa fr j= .b false):aK E call n ((u,⟨d,op,some (j,false)⟩)::ds) bo ⟨fr,lh,sh⟩=aK E call n ((u,⟨d,op,none⟩)::ds) bo ⟨fr,lh,sh⟩:=Nr h
theorem EM{op:lX}{j:Nat}{w:Bool}(r:B6 n d)(h:aa fr j= .b (!w)∨aa fr j=aO):aK E call n ((u,⟨d,op,some (j,w)⟩)::ds) bo ⟨fr,lh,sh⟩=aK E call n ds (bo++ [fF]) ⟨rG fr d aO,lh,sh⟩:=by
 have D:bL E call ⟨d,op,some (j,w)⟩ ⟨fr,lh,sh⟩=some fF:=by
  unfold bL
  rcases h with h|h
  ·simp only[h];rw[if_neg (by cases w <;> simp)]
  ·simp only[h,aO]
 rw[mJ (fp:=fF) (fun _=>D),qe,if_pos rfl]
 rcases h with h|h
 ·rw[Au r h];rfl
 ·rw[Nj r h];rfl
theorem V8{r:Nat}{op:lX}{j:Nat}(D:r<n)(h:aa fr j= .b false):aK E call n ((u,⟨some r,op,some (j,true)⟩)::ds) bo ⟨fr,lh,sh⟩=aK E call n ds (bo++ [fF]) ⟨cL fr r aO,lh,sh⟩:=EM (d:=some r) D (Or.inl h)
theorem V9{r:Nat}{op:lX}{j:Nat}(D:r<n)(h:aa fr j= .b true):aK E call n ((u,⟨some r,op,some (j,false)⟩)::ds) bo ⟨fr,lh,sh⟩=aK E call n ds (bo++ [fF]) ⟨cL fr r aO,lh,sh⟩:=EM (d:=some r) D (Or.inl h)
theorem Wa{r:Nat}{op:lX}{j:Nat}{w:Bool}(D:r<n)(h:aa fr j=aO):aK E call n ((u,⟨some r,op,some (j,w)⟩)::ds) bo ⟨fr,lh,sh⟩=aK E call n ds (bo++ [fF]) ⟨cL fr r aO,lh,sh⟩:=EM (d:=some r) D (Or.inr h)
end
end Go.Ev
namespace Go.Ev
open Go
def fzW(m:Nat)(lh:aE ah)(sh:List ah)(keep:Bool)(v:T):Option (T×List Up):=(fz keep (m+1) v).run (St.mk .nil lh sh).get sh.length
def sJ(m:Nat)(lh:aE ah)(sh:List ah)(keep:Bool)(r:List T):Option (List T×List Up):=(bf (fz keep (m+1)) r).run (St.mk .nil lh sh).get sh.length
section
variable{m:Nat}{lh:aE ah}{sh:List ah}{keep:Bool}
theorem wP{v:T}(h:froz1 v=true):fzW m lh sh keep v=some (v,[]):=by unfold fzW;rw[qc h];rfl
theorem EN{k g off len sz:Nat}:fzW m lh sh keep (.isl .L k g off len sz)=U5 m lh sh k (ab lh k) g off len sz:=by
 cases keep <;> exact avG (ab lh k)
theorem akA{k g:Nat}:fzW m lh sh keep (.mp .L k g)=mpV k (ab lh k) g:=by
 cases keep <;> exact mpQ (ab lh k)
theorem Wb:sJ m lh sh keep []=some ([],[]):=rfl
theorem Qp{v:T}{r:List T}:sJ m lh sh keep (v::r)=(fzW m lh sh keep v).bind fun p=>(sJ m lh sh keep r).bind fun q=>some (p.1::q.1,p.2++q.2):=by
 unfold sJ fzW
 rw[bf,bp]
 congr 1
 funext p
 rw[bp]
 rfl
theorem AA{r:List T}(h:r.all froz1=true):sJ m lh sh keep r=some (r,[]):=by
 unfold sJ;rw[gY r h];rfl
theorem Wc{cs:List T}:fzV lh sh keep (.agg cs)=(sJ 6 lh sh keep cs).map fun q=>(.agg q.1,q.2):=abu
theorem Wd{cs:List T}:fzV lh sh keep (.tup cs)=(sJ 6 lh sh keep cs).map fun q=>(.tup q.1,q.2):=abv
theorem We{cs:List T}:fzW (m+1) lh sh keep (.agg cs)=(sJ m lh sh keep cs).map fun q=>(.agg q.1,q.2):=by
 unfold fzW sJ
 rw[EA,bp]
 cases (bf (fz keep (m+1)) cs).run (St.mk .nil lh sh).get sh.length <;> rfl
theorem Wf{r:Bool}{v:T}:P6 lh sh r [v]=(fzV lh sh r v).map fun p=>(p.1,((St.mk .nil lh sh).ups p.2).sh):=rfl
theorem Qq{r:Bool}{v u:T}{D:List T}:P6 lh sh r (v::u::D)=(fzV lh sh r (.tup (v::u::D))).map fun p=>(p.1,((St.mk .nil lh sh).ups p.2).sh):=rfl
end
theorem awi{x y:List Nat}:rD (.one .str) (.s x) (.s y)=some (decide (x=y)):=by
 simp only[rD,ep,Bool.beq_eq_decide_eq]
theorem awj{k:IntKind}{x y:Int}:rD (.one .int) (.i k x) (.i k y)=some (decide (x=y)):=by
 simp_all[rD,ep,Bool.beq_eq_decide_eq]
theorem akB{k:IntKind}{x y:Int}{s t:List Nat}:rD (.flat [.int,.str]) (.agg [.i k x,.s s]) (.agg [.i k y,.s t])=some (decide (x=y∧s=t)):=by
 simp only[rD,bW,ep,if_true,Bool.beq_eq_decide_eq]
 grind
theorem xM{x:List Nat}:isKey (.one .str) (.s x)=true:=nr rfl
theorem ahl{k:IntKind}{x:Int}:isKey (.one .int) (.i k x)=true:=nr rfl
theorem Wg{k:IntKind}{x:Int}{s:List Nat}:isKey (.flat [.int,.str]) (.agg [.i k x,.s s])=true:=nr rfl
def awk(r:Option Bool)(D:Option (Option Nat)):Option (Option Nat):=
 match r with
 |some true=>some (some 0)
 |some false=>D.map fun r=>r.map (· +1)
 |none=>none
theorem Qr{kk:EK}{k x:T}{xs:List T}:fZ kk k (x::xs)=awk (rD kk k x) (fZ kk k xs):=rfl
def lkF(F:List T)(z:T)(D:Bool)(r:Option (Option Nat)):Option T:=
 match r with
 |some (some i)=>F[i]?.map fun v=>if D=true then .tup [v,.b true]else v
 |some none=>some (if D=true then .tup [z,.b false]else z)
 |none=>none
theorem Ns{kk:EK}{ks r:List T}{k z:T}{D:Bool}(h:isKey kk k=true):iq kk ks r k z D=lkF r z D (fZ kk k ks):=by
 grind [iq,lkF]
theorem Ii{r:List T}{z:T}{D:Bool}{i:Nat}:lkF r z D (some (some i))=r[i]?.map fun v=>if D=true then .tup [v,.b true]else v:=rfl
def akC(ks D:List T)(k v:T)(r:Option (Option Nat)):Option (List T×List T):=
 match r with
 |some (some i)=>some (ks.set i k,D.set i v)
 |some none=>some (ks++ [k],D++ [v])
 |none=>none
theorem acL{kk:EK}{ks r:List T}{k v:T}:lq kk k v ks r=akC ks r k v (fZ kk k ks):=by
 grind [lq,akC]
theorem Qs{ks r:List T}{k v:T}:akC ks r k v (some none)=some (ks++ [k],r++ [v]):=rfl
theorem bO{g r:Nat}{ks D:List T}{z:Bool}{F:EK}{k u:T}{H:Bool}:lkE ⟨r,.map ks D z⟩ g F k u H=if r=g then iq F ks D k u H else none:=rfl
theorem oL{lh:aE ah}{kk g D:Nat}{ks F:List T}{r:EK}{k v:T}:muE lh kk ⟨D,.map ks F false⟩ g r k v=if D=g∧isKey r k=true then(lq r k v ks F).map fun q=>iR lh kk ⟨g,.map q.1 q.2 false⟩else none:=rfl
end Go.Ev
namespace Go.Ev
open Go
section
variable{E:Env}{call:jB}{n:Nat}{fr:Fr}{lh:aE ah}{sh:List ah}{os:List aF}{d:Nat}
theorem Wh{z:List T}(r:d<n):ai E call n (⟨some d,.alloc z true,none⟩::os) ⟨fr,lh,sh⟩=ai E call n os ⟨cL fr d (.ptr .S sh.length 1 0),lh,bD sh sh.length ⟨1,.cells z 0 true⟩⟩:=by
 rw[ko (by rfl) (show B6 n (some d)from r)];rfl
theorem Wi(r:d<n):ai E call n (⟨some d,.mkmap true,none⟩::os) ⟨fr,lh,sh⟩=ai E call n os ⟨cL fr d (.mp .S sh.length 1),lh,bD sh sh.length ⟨1,.map [] [] false⟩⟩:=by
 rw[ko (by rfl) (show B6 n (some d)from r)];rfl
theorem Qt{e:ah}{l:List ah}:aI (e::l) 0=e:=rfl
theorem qZ{e:ah}{l:List ah}{k:Nat}:aI (e::l) (k+1)=aI l k:=rfl
theorem Wj{k:Nat}:aI [] k=eB:=rfl
theorem Wk{v:ah}:bD [] 0 v= [v]:=rfl
theorem Qu{e v:ah}{l:List ah}:bD (e::l) 0 v=v::l:=rfl
theorem re{e v:ah}{l:List ah}{k:Nat}:bD (e::l) (k+1) v=e::bD l k v:=rfl
def AB(lh:aE ah)(sh:List ah)(k:Nat)(e:ah)(g off:Nat)(v:T)(m:Nat):Option (aE ah×List ah):=
 match e with
 |⟨D,.cells cs r bx⟩=>if D=g∧(cellsOf v).length=m∧noTup v=true∧r≤off∧off+m≤cs.length then some (lh,bD sh k ⟨g,.cells (splice cs off (cellsOf v)) r bx⟩)else none
 |_=>none
def Ij(k g off m:Nat)(v:T)(e:ah):Q zF:=if e.g=g then match e.ob with
     | .cells cs r bx=>if r≤off&&off+m≤cs.length then
         (if bx&&Sp.S== .L then .ret (.val aO [(Sp.S,k,⟨g,.cells (splice cs off (cellsOf v)) r bx⟩)])
         else(fz (bx&&Sp.S== .S) aJ v).bind fun p=>if jh p.2 .S k|| !noTup p.1||(cellsOf p.1).length≠m then .fail else .ret (.val aO (p.2++ [(Sp.S,k,⟨g,.cells (splice cs off (cellsOf p.1)) r bx⟩)])))
       else .fail
     |_=> .fail
    else .fail
theorem acM{k g off m:Nat}{v:T}(e:ah)(h1:(cellsOf v).length=m)(h2:noTup v=true)(H:froz v=true):gp lh sh (Q.run (St.mk .nil lh sh).get sh.length (Ij k g off m v e))=AB lh sh k e g off v m:=by
 obtain⟨I,ob⟩:=e
 unfold AB Ij
 by_cases J:I=g
 ·subst J
  cases ob with
  |none=>simp[Q.run,gp]
  |map ks N z=>simp[Q.run,gp]
  |cells cs F bx=>
   by_cases r:F≤off∧off+m≤cs.length
   ·have D:(decide (F≤off)&&decide (off+m≤cs.length))=true:=by simp[r.1,r.2]
    have KE:(bx&&Sp.S==Sp.L)=false:=by cases bx <;> rfl
    unfold aJ
    simp only[if_true,D,KE,Bool.false_eq_true,if_false]
    rw[jv H]
    have K:(jh [] Sp.S k|| !noTup v||decide ((cellsOf v).length≠m))=false:=by simp[jh,h1,h2]
    simp only[Q.bind,K,Bool.false_eq_true,if_false,Q.run,gp]
    rw[if_pos ⟨trivial,h1,h2,r⟩]
    rfl
   grind [Bool.false_eq_true,Q.run,gp]
 grind [Q.run,gp]
theorem awl{k g off m:Nat}{v:T}(r:froz v=true):stV lh sh (.ptr .S k g off) v m=AB lh sh k (aI sh k) g off v m:=by
 by_cases h1:(cellsOf v).length=m
 ·cases h2:noTup v with
  |false=>
   unfold stV mY
   have:(decide ((cellsOf v).length≠m)|| !noTup v)=true:=by simp[h2]
   simp only[this,if_true,Q.run]
   unfold AB
   grind
  |true=>
   unfold stV mY
   have:(decide ((cellsOf v).length≠m)|| !noTup v)=false:=by simp[h1,h2]
   simp only[this,Bool.false_eq_true,if_false]
   exact acM (aI sh k) h1 h2 r
 ·unfold stV mY
  have:(decide ((cellsOf v).length≠m)|| !noTup v)=true:=by simp[h1]
  simp only[this,if_true,Q.run]
  unfold AB
  grind
theorem dA{k g D off m r:Nat}{cs:List T}{bx:Bool}{v:T}:AB lh sh k ⟨D,.cells cs r bx⟩ g off v m=if D=g∧(cellsOf v).length=m∧noTup v=true∧r≤off∧off+m≤cs.length then some (lh,bD sh k ⟨g,.cells (splice cs off (cellsOf v)) r bx⟩)else none:=rfl
end
section
variable{E:Env}{call:jB}{n:Nat}{fr:Fr}{lh:aE ah}{sh:List ah}{ds:List (List Nat×aF)}{bo:List FP}{u:List Nat}{d:Option Nat}
def mg:T→List (Sp×Nat)
 | .mp sp k _=> [(sp,k)]
 |_=> []
theorem Wl{sp:Sp}{k g:Nat}:mg (.mp sp k g)= [(sp,k)]:=rfl
theorem Wm{a b:List T}:mg (.vm a b)= []:=rfl
theorem acN{h:Sp→Nat→ah}{nx:Nat}{o:Option T}:(val o).log h nx= []:=by cases o <;> rfl
theorem aB4{r:EK}{m k:aP}{z:T}{D:Bool}:aK E call n ((u,⟨d,.lk r m k z D,none⟩)::ds) bo ⟨fr,lh,sh⟩=
  if meets u bo ⟨false,mg (rd fr m),[]⟩=true then ke E call n ds (bo++ [⟨false,mg (rd fr m),[]⟩]) (ai E call n [⟨d,.lk r m k z D,none⟩] ⟨fr,lh,sh⟩)else none:=by
 refine mJ fun F=> ?_
 obtain⟨I,J⟩:=EE (d:=d.getD 0) (ρ:=(St.mk fr lh sh).rho) (op:= .lk r m k z D) rfl
 obtain⟨v,K,hr,N⟩:=pD J rfl F
 obtain⟨rfl,H⟩:=Q.calm_run _ I hr
 have O:(bt (d.getD 0) (St.mk fr lh sh).rho (.lk r m k z D)).log (St.mk fr lh sh).get sh.length=mg (rd fr m):=by
  rw[dh]
  grind [mg,bt,Q.log,acN]
 have:=N (by rw[H];simp[inB])
 rw[this,H,O];rfl
def acO:T→Bool
 | .mp .L .. =>true
 |_=>false
theorem acP{k g:Nat}:acO (.mp .L k g)=true:=nr rfl
theorem aB5{D:EK}{m k v:aP}(hx:acO (rd fr m)=true)(I:froz (rd fr v)=true):aK E call n ((u,⟨none,.mu D m k v,none⟩)::ds) bo ⟨fr,lh,sh⟩=
  if meets u bo ⟨false,mg (rd fr m),mg (rd fr m)⟩=true then ke E call n ds (bo++ [⟨false,mg (rd fr m),mg (rd fr m)⟩]) (ai E call n [⟨none,.mu D m k v,none⟩] ⟨fr,lh,sh⟩)else none:=by
 refine mJ fun F=> ?_
 cases H:rd fr m with
 |mp sp kk g=>
  cases sp with
  |S=>grind [acO]
  |L=>
   obtain⟨w,J,hr,r⟩:=pD (q:= .rd .L kk (abA kk g D (rd fr k) (rd fr v))) (by rfl) (by rw[dh];simp only[bt,H];rfl) F
   simp only[Q.run,Q.log,Q.asks,Nb]at hr r
   generalize ab lh kk=e at hr r
   obtain⟨K,ob⟩:=e
   unfold abA at hr r
   by_cases N:(decide (K=g)&&isKey D (rd fr k))=true
   ·simp only[N,if_true]at hr r
    cases ob with
    |none=>simp[Q.run]at hr
    |cells cs U bx=>simp[Q.run]at hr
    |map ks V O=>
     cases O with
     |true=>simp[Q.run]at hr
     |false=>
      simp only[]at hr r
      unfold aJ at hr r
      rw[jv I]at hr r
      simp only[Q.bind]at hr r
      split at hr
      ·rename_i q R
       simp only[jh,List.any_nil,Bool.false_eq_true,if_false,Q.run,Option.some.injEq,zF.val.injEq]at hr
       obtain⟨rfl,rfl⟩:=hr
       rw[R]at r
       simp only[jh,List.any_nil,Bool.false_eq_true,if_false]at r
       exact r rfl
      ·simp[Q.run]at hr
   grind [Bool.false_eq_true,Q.run]
 |_=>grind [acO]
end
section
variable{E:Env}{call:jB}{n:Nat}{fr:Fr}{lh:aE ah}{sh:List ah}{ds:List (List Nat×aF)}{bo:List FP}{d:Option Nat}
theorem Nt{D:Bool}{F sz bytes:Nat}{s x:T}{v:T}{r:List Up}{st:St}(hs:notS s=true)(h:(jA F sz bytes s x false D).run st.get st.sh.length=some (.val v r)):inB st r=true:=by
 unfold jA at h
 rw[bp]at h
 cases hx:(cp sz x).run st.get st.sh.length with
 |none=>grind
 |some p=>
  rw[hx]at h
  simp only[Option.bind_some]at h
  split at h
  ·split at h
   ·simp[Q.run]at h;rw[h.2];rfl
   ·simp[Q.run]at h;rw[h.2];rfl
   ·simp[Q.run]at h;rw[h.2];rfl
   ·simp[Q.run]at h
  ·split at h
   ·split at h
    ·simp[iW,Q.run]at h;rw[←h.2];rfl
    ·simp[Q.run]at h
   ·split at h
    ·simp[iW,Q.run]at h;rw[←h.2];rfl
    ·simp[Q.run]at h
   ·rename_i sp k g off len H
    cases sp with
    |S=>simp[notS]at hs
    |L=>
     split at h
     ·simp only[Q.run]at h
      split at h
      ·split at h
       ·split at h
        ·simp[Q.run]at h;rw[←h.2];rfl
        ·simp[Q.run]at h
       ·simp[Q.run]at h
      ·simp[Q.run]at h
     ·simp[Q.run]at h
   ·simp[Q.run]at h
def RK:List (List Nat×aF)→Bool
 | []=>true
 |(u,_)::ds=>u.isEmpty&&RK ds
theorem acQ:RK []=true:=nr rfl
theorem Wn{o:aF}{ds:List (List Nat×aF)}:RK (([],o)::ds)=RK ds:=nr rfl
theorem AD: ∀(ds:List (List Nat×aF)) (bo r:List FP) (st:St),RK ds=true→aK E call n ds bo st=aK E call n ds r st
 | [],_,_,_,_=>rfl
 |(u,o)::ds,bo,r,st,h=>by
  simp only[RK,Bool.and_eq_true,List.isEmpty_iff]at h
  obtain⟨rfl,h⟩:=h
  simp only[aK,List.all_nil,if_true]
  cases bL E call o st with
  |none=>rfl
  |some fp=>
   simp only[]
   cases bg E call n o st with
   |none=>rfl
   |some s=>exact AD ds _ _ s h
theorem akD{r:Bool}{sz bytes:Nat}{s x:aP}(hs:notS (rd fr s)=true)(H:RK ds=true):aK E call n (([],⟨d,.app sz bytes s x false r,none⟩)::ds) bo ⟨fr,lh,sh⟩=
  ke E call n ds (bo++ [fF]) (ai E call n [⟨d,.app sz bytes s x false r,none⟩] ⟨fr,lh,sh⟩):=by
 rw[mJ (fp:=(bL E call ⟨d,.app sz bytes s x false r,none⟩ ⟨fr,lh,sh⟩).getD fF)]
 ·show ke _ _ _ _ _ _=_
  unfold ke
  cases ai E call n [⟨d,.app sz bytes s x false r,none⟩] ⟨fr,lh,sh⟩with
  |none=>rfl
  |some s=>grind [AD]
 ·intro D
  obtain⟨v,F,hr,I⟩:=pD (q:=jA (d.getD 0) sz bytes (rd fr s) (rd fr x) false r) (by rfl) (by rw[dh];rfl) D
  grind [Nt]
end
theorem La(a:ak){E:Env}{n:Nat}{st:St}:DC E n (.loop a) st=andThen (DC E n a st) (DC E n (.loop a)):=qY
end Go.Ev
