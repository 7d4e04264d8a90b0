/- A tree evaluator over the model, proved against it (part F): where it answers, the call returns that answer. Conditions: none beyond its theorems' own. -/
import Derived.Test.YtnkgnjecmfkcfaaGreatEvE
set_option linter.all false
namespace Go.Ev
open Go
def aov{x:Bool}:froz (.b x)=true:=nr rfl
def aow{k:IntKind}{n:Int}:froz (.i k n)=true:=nr rfl
def aox{l:List Nat}:froz (.s l)=true:=nr rfl
def Nk:froz .nilsl=true:=nr rfl
def afI{cs:List T}{n:Nat}{e:Bool}:froz (.sl cs n e)=true:=nr rfl
def afJ{cs:List T}:froz (.vp cs)=true:=nr rfl
theorem Ke{cs:List T}:froz (.agg cs)=cs.all froz1:=nr rfl
def YQ{cs:List T}:froz (.tup cs)=cs.all froz1:=nr rfl
def afM{x:Bool}:froz1 (.b x)=true:=nr rfl
theorem wq{k:IntKind}{n:Int}:froz1 (.i k n)=true:=nr rfl
theorem GS{l:List Nat}:froz1 (.s l)=true:=nr rfl
def Kf:froz1 .nilsl=true:=nr rfl
def YR{cs:List T}{n:Nat}{e:Bool}:froz1 (.sl cs n e)=true:=nr rfl
def GU:froz1 .nilptr=true:=nr rfl
def S6{cs:List T}:cellsOf (.agg cs)=cs:=nr rfl
def afN{x:Bool}:cellsOf (.b x)= [.b x]:=nr rfl
def afO{k:IntKind}{n:Int}:cellsOf (.i k n)= [.i k n]:=nr rfl
def afP{l:List Nat}:cellsOf (.s l)= [.s l]:=nr rfl
def Ki:cellsOf .nilsl= [.nilsl]:=nr rfl
def YU{cs:List T}{n:Nat}{e:Bool}:cellsOf (.sl cs n e)= [.sl cs n e]:=nr rfl
def S7{sp:Sp}{a b c d e:Nat}:cellsOf (.isl sp a b c d e)= [.isl sp a b c d e]:=nr rfl
def S8{sp:Sp}{a b c:Nat}:cellsOf (.ptr sp a b c)= [.ptr sp a b c]:=nr rfl
def YW{sp:Sp}{a b:Nat}:cellsOf (.mp sp a b)= [.mp sp a b]:=nr rfl
def S9{cs:List T}:noTup (.agg cs)=true:=nr rfl
def afQ{x:Bool}:noTup (.b x)=true:=nr rfl
def afR{k:IntKind}{n:Int}:noTup (.i k n)=true:=nr rfl
def afS{l:List Nat}:noTup (.s l)=true:=nr rfl
def Kk:noTup .nilsl=true:=nr rfl
def YY{cs:List T}{n:Nat}{e:Bool}:noTup (.sl cs n e)=true:=nr rfl
def Ta{sp:Sp}{a b c d e:Nat}:noTup (.isl sp a b c d e)=true:=nr rfl
def Td{sp:Sp}{a b c:Nat}:noTup (.ptr sp a b c)=true:=nr rfl
def Y1{sp:Sp}{a b:Nat}:noTup (.mp sp a b)=true:=nr rfl
def Nn:notS .nilsl=true:=nr rfl
def Y4{a b c d e:Nat}:notS (.isl .L a b c d e)=true:=nr rfl
def afU{a b:Nat}:notS (.mp .L a b)=true:=nr rfl
def afV{cs:List T}{n:Nat}{e:Bool}:lK (.sl cs n e)=some n:=nr rfl
def Y7:lenI .nilsl=some (.i .i64 0):=nr rfl
def afW{cs:List T}{n:Nat}{e:Bool}:lenI (.sl cs n e)=some (.i .i64 n):=nr rfl
def Y8{sp:Sp}{a b c d e:Nat}:lenI (.isl sp a b c d e)=some (.i .i64 d):=nr rfl
def Y9{x:Bool}:scalar (.b x)=true:=nr rfl
def Za{k:IntKind}{n:Int}:scalar (.i k n)=true:=nr rfl
def No{cs:List T}:scalar (.agg cs)=false:=nr rfl
section
variable{lh:aE ah}{sh:List ah}{m g off k:Nat}{ag:Bool}
def aoy{cs:List T}:ldV lh sh (.vp cs) m ag=Ev.part cs 0 m ag:=rfl
def aA6:ldV lh sh (.ptr .L k g off) m ag=ldE (ab lh k) g off m ag:=rfl
def aA7:ldV lh sh (.ptr .S k g off) m ag=ldE (aI sh k) g off m ag:=rfl
def aoz{cs:List T}:faV (.vp cs) off=if off≤cs.length then some (.vp (cs.drop off))else none:=rfl
def afX{sp:Sp}{o:Nat}:faV (.ptr sp k g o) off=some (.ptr sp k g (o+off)):=rfl
def Zc{cs:List T}:aeX (.agg cs) off m ag=Ev.part cs off m ag:=rfl
def afY{cs:List T}:GN (.vp cs)=some (.vp cs):=rfl
def Zd{sp:Sp}{o:Nat}:GN (.ptr sp k g o)=some (.ptr sp k g o):=rfl
def Ze{r:List T}:aeZ (.tup r) m=r[m]? :=rfl
def af0{l:List Nat}:PM (.s l)=some (.i .i64 l.length):=rfl
def aoA{kk r:IntKind}{n:Int}:aeU kk (.i r n)=some (.i kk (wr kk n)):=rfl
theorem pI{m k g r off len sz D:Nat}{lh:aE ah}{sh:List ah}{cs:List T}:Yv m lh sh k ⟨r,.cells cs D false⟩ g off len sz=if r=g∧off+len*sz≤cs.length then some (.sl ((cs.drop off).take (len*sz)) len false,[(.L,k,⟨g,.cells cs cs.length false⟩)])else none:=rfl
def af1{k g D:Nat}{ks r:List T}{z:Bool}:mpV k ⟨D,.map ks r z⟩ g=if D=g then some (.vm ks r,[(.L,k,⟨g,.map ks r true⟩)])else none:=rfl
theorem ua{g r off len sz D bytes F:Nat}{p:Nat×List T}{cs:List T}:S0 lh k ⟨r,.cells cs F false⟩ g off len sz D bytes p=if D=sz∧off=0∧(len+p.1)*bytes≤roomy∧r=g∧len*sz=cs.length then some (.isl .L k (g+1) 0 (len+p.1) sz,jB lh k ⟨g+1,.cells (cs++p.2) F false⟩)else none:=rfl
theorem wu{d sz bytes n:Nat}{cs:List T}:Ck lh d sz bytes .nilsl (n+1,cs)=if(n+1)*bytes≤roomy then some (.isl .L d ((ab lh d).g+1) 0 (n+1) sz,jB lh d ⟨(ab lh d).g+1,.cells cs 0 false⟩)else none:=by
 unfold Ck;rw[if_neg (Nat.succ_ne_zero n)]
theorem Cq{d sz r bytes n g off len:Nat}{cs:List T}:Ck lh d sz bytes (.isl .L k g off len r) (n+1,cs)=S0 lh k (ab lh k) g off len sz r bytes (n+1,cs):=by
 unfold Ck;rw[if_neg (Nat.succ_ne_zero n)]
end
theorem iC{α:Type}{f:α→List T}{sz:Nat}(r: ∀x,(f x).length=sz): ∀xs:List α,(xs.flatMap f).length=xs.length*sz
 | []=>by simp
 |x::xs=>by simp[List.flatMap_cons,r,iC r xs,Nat.succ_mul,Nat.add_comm]
theorem yu{α:Type}{f:α→List T}{sz:Nat}(r: ∀x,(f x).length=sz): ∀(xs:List α) (k:Nat) (hk:k<xs.length),(xs.flatMap f).drop (k*sz)=f xs[k]++(xs.drop (k+1)).flatMap f
 | [],k,hk=>by simp at hk
 |x::xs,0,hk=>by grind
 |x::xs,k+1,hk=>by
  have h1:(k+1)*sz=(f x).length+k*sz:=by rw[r,Nat.succ_mul,Nat.add_comm]
  have h2:List.drop ((f x).length+k*sz) (f x)= []:=List.drop_eq_nil_of_le zV
  rw[List.flatMap_cons,h1,List.drop_append,h2,Nat.add_sub_cancel_left,yu r xs k (by simpa using hk)]
  rfl
def ints(xs:List Int):List T:=xs.map (T.i .i64)
theorem eu(xs:List Int):(ints xs).length=xs.length:=by simp[ints]
theorem lY(xs:List Int)(k:Nat)(hk:k<xs.length):(ints xs).drop k=T.i .i64 xs[k]::(ints xs).drop (k+1):=by
 rw[List.drop_eq_getElem_cons (by rw[eu];exact hk)];simp[ints]
def IsSl(v:T)(n:Nat)(cs:List T):Prop:=(v= .nilsl∧n=0∧cs= [])∨ ∃ex,v= .sl cs n ex
theorem IsSl.len{v:T}{n:Nat}{cs:List T}(h:IsSl v n cs):lK v=some n:=by
 rcases h with⟨rfl,rfl,_⟩|⟨ex,rfl⟩ <;> rfl
theorem IsSl.lenI{v:T}{n:Nat}{cs:List T}(h:IsSl v n cs):lenI v=some (.i .i64 (n:Int)):=afr h.len
theorem IsSl.froz1{v:T}{n:Nat}{cs:List T}(h:IsSl v n cs):froz1 v=true:=by
 rcases h with⟨rfl,_,_⟩|⟨ex,rfl⟩ <;> rfl
theorem IsSl.froz{v:T}{n:Nat}{cs:List T}(h:IsSl v n cs):froz v=true:=by
 rcases h with⟨rfl,_,_⟩|⟨ex,rfl⟩ <;> rfl
theorem IsSl.cells{v:T}{n:Nat}{cs:List T}(h:IsSl v n cs):cellsOf v= [v]:=by
 rcases h with⟨rfl,_,_⟩|⟨ex,rfl⟩ <;> rfl
theorem IsSl.noTup{v:T}{n:Nat}{cs:List T}(h:IsSl v n cs):noTup v=true:=by
 rcases h with⟨rfl,_,_⟩|⟨ex,rfl⟩ <;> rfl
theorem IsSl.ia{v:T}{n sz k:Nat}{cs:List T}{kk:IntKind}(h:IsSl v n cs)(hc:cs.length=n*sz)(hk:k<n):iaV v (.i kk (k:Int)) sz=some (.vp (cs.drop (k*sz))):=by
 rcases h with⟨rfl,rfl,_⟩|⟨ex,rfl⟩
 ·omega
 grind [cX,Int.toNat_natCast,Nat.mul_le_mul_right]
theorem IsSl.slC{v:T}{n sz:Nat}{cs:List T}{lh:aE ah}{sh:List ah}(h:IsSl v n cs)(hc:cs.length=n*sz):slC lh sh sz v=some (n,cs):=by
 rcases h with⟨rfl,rfl,rfl⟩|⟨ex,rfl⟩
 ·rfl
 ·rw[Cj,if_pos hc]
section
variable(E:Env)(n:Nat)(b:ak)(fr:Fr)(lh:aE ah)(sh:List ah)
noncomputable def nM:Fr:=match DC E n (.loop b) ⟨fr,lh,sh⟩with|some (_,st)=>st.fr|none=>fr
noncomputable def iL:aE ah:=match DC E n (.loop b) ⟨fr,lh,sh⟩with|some (_,st)=>st.lh|none=>lh
noncomputable def je:List ah:=match DC E n (.loop b) ⟨fr,lh,sh⟩with|some (_,st)=>st.sh|none=>sh
end
section
variable{E:Env}{n:Nat}{b:ak}{fr:Fr}{lh:aE ah}{sh:List ah}{o:Out}
def Zf{s:Nat}(h:(bO (.loop b)).contains s=false):aa (nM E n b fr lh sh) s=aa fr s:=by
 unfold nM
 cases r:DC E n (.loop b) ⟨fr,lh,sh⟩with
 |none=>rfl
 |some p=>obtain⟨o,st⟩:=p;exact fy r s h
def dR:List Nat→Nat
 | []=>0
 |s::r=>(1 <<< s) ||| dR r
theorem GY(s:Nat): ∀l:List Nat,s∈l→(dR l).testBit s=true
 | [],h=>by simp at h
 |x::xs,h=>by
  rw[dR,Nat.testBit_or]
  rcases List.mem_cons.1 h with h|h
  ·grind
  ·rw[GY s xs h];simp
def Fi{s:Nat}(h:(dR (bO (.loop b)) >>> s)%2=0):aa (nM E n b fr lh sh) s=aa fr s:=by
 refine Zf ?_
 cases hc:(bO (.loop b)).contains s with
 |false=>rfl
 |true=>
  have h1:=GY s _ (List.contains_iff_mem.1 hc)
  grind [Nat.testBit]
def Tf{P:Fr→aE ah→List ah→Prop}(h: ∃r aN D,DC E n (.loop b) ⟨fr,lh,sh⟩=some (o,⟨r,aN,D⟩)∧P r aN D):
  DC E n (.loop b) ⟨fr,lh,sh⟩=some (o,⟨nM E n b fr lh sh,iL E n b fr lh sh,je E n b fr lh sh⟩)∧P (nM E n b fr lh sh) (iL E n b fr lh sh) (je E n b fr lh sh):=by
 grind [nM,iL,je]
end
def gh(m:Nat)(D:m≤62)(a:Int):Ev.bin .and (.i .i64 a) (.i .i64 (2 ^ m-1))=some (.i .i64 (a%2 ^ m)):=by
 have h2:(2:Int) ^ m=((2 ^ m:Nat):Int):=by norm_cast
 have K:0<2 ^ m:=Nat.two_pow_pos m
 have F:2 ^ m≤2 ^ 62:=Nat.pow_le_pow_right zV D
 have Zg:(BitVec.ofInt 64 ((2:Int) ^ m-1)).toNat=2 ^ m-1:=by
  grind
 have r:(BitVec.ofInt 64 a &&& BitVec.ofInt 64 ((2:Int) ^ m-1)).toNat=(a%2 ^ m).toNat:=by
  rw[BitVec.toNat_and,Zg,Nat.and_two_pow_sub_one_eq_mod,BitVec.toNat_ofInt]
  have H:0≤a%((2 ^ 64:Nat):Int):=Int.emod_nonneg _ zV
  have h4:(a%((2 ^ 64:Nat):Int))%((2 ^ m:Nat):Int)=a%((2 ^ m:Nat):Int):=Int.emod_emod_of_dvd a (by
   have:(2 ^ m:Nat)∣2 ^ 64:=Nat.pow_dvd_pow 2 zV
   exact Int.natCast_dvd_natCast.2 this)
  have h5:(((a%((2 ^ 64:Nat):Int)).toNat%2 ^ m:Nat):Int)=a%((2 ^ m:Nat):Int):=by
   grind
  grind
 have N:(IntKind.i64).bits=64:=rfl
 simp only[Ev.bin,if_true,mI]
 have I:0≤a%2 ^ m:=by rw[h2];exact Int.emod_nonneg _ zV
 have J:a%2 ^ m<2 ^ m:=by rw[h2];exact Int.emod_lt_of_pos _ zV
 grind [IntKind.wrap]
section
variable{a:Int}
def Tg:Ev.bin .and (.i .i64 a) (.i .i64 65535)=some (.i .i64 (a%65536)):=gh 16 zV a
theorem PZ{k k':IntKind}{b:Int}:Ev.bin .shr (.i k a) (.i k' b)=if b<0 then none else some (.i k (a.fdiv (2 ^ (min b.toNat k.bits)))):=by
 simp only[Ev.bin,BC]
def fi{k':IntKind}{b:Nat}(h:b≤64):Ev.bin .shr (.i .i64 a) (.i k' (b:Int))=some (.i .i64 (a/2 ^ b)):=by
 rw[PZ,if_neg zV,Int.toNat_natCast]
 have:min b (IntKind.i64).bits=b:=Nat.min_eq_left h
 grind
def aA9{k':IntKind}:Ev.bin .shr (.i .i64 a) (.i k' 3)=some (.i .i64 (a/8)):=fi (b:=3) zV
def aBa{k':IntKind}:Ev.bin .shr (.i .i64 a) (.i k' 4)=some (.i .i64 (a/16)):=fi (b:=4) zV
def aBf{k':IntKind}:Ev.bin .shr (.i .i64 a) (.i k' 8)=some (.i .i64 (a/256)):=fi (b:=8) zV
end
theorem mZ{n:Int}(h:0≤n∧n≤18446744073709551615):wr .u64 n=n:=by grind [wr,lo,hi]
theorem eF{a b:Int}(h:0≤a):a.tmod b=a%b:=Int.tmod_eq_emod_of_nonneg h
def Cu(x:FP):apart x fW=true:=by
 obtain⟨a,r,w⟩:=x
 simp[apart,eM,fW,Iu]
def Np(x:FP):apart fW x=true:=by
 obtain⟨a,r,w⟩:=x
 simp[apart,eM,fW,Iu]
def Zj{r D w w':List (Sp×Nat)}:apart ⟨false,r,w⟩ ⟨false,D,w'⟩=(eM w D&&eM w w'&&eM r w'):=by
 simp[apart]
def Nq{r:List (Sp×Nat)}:eM [] r=true:=rfl
def Km{x:Sp×Nat}{xs r:List (Sp×Nat)}:eM (x::xs) r=(!r.contains x&&eM xs r):=rfl
def af6{x:Sp×Nat}:([]:List (Sp×Nat)).contains x=false:=rfl
def Zk{a c:Sp}{b d:Nat}{ys:List (Sp×Nat)}:((c,d)::ys).contains (a,b)=((decide (a=c)&&decide (b=d))||ys.contains (a,b)):=by
 rw[List.contains_cons]
 have:((a,b)==(c,d))=(decide (a=c)&&decide (b=d)):=by
  cases a <;> cases c <;> by_cases h:b=d <;> simp[h]
 rw[this]
def di:mP→Bool
 | .mv _| .pick .. | .bin .. | .eq .. | .un .. | .cvi .. | .b2s _| .mkfn .. | .build .. | .slS .. | .fa .. | .fld .. | .ia .. | .iaA .. | .ixS .. | .ixA .. | .ext .. | .lenS _| .lenV _| .lenC _| .mm .. | .nck _=>true
 | .slV _ _ _ _ none=>true
 |_=>false
def af7{x:aV}:di (.mv x)=true:=nr rfl
def Th{c a b:aV}:di (.pick c a b)=true:=nr rfl
def Zl{o:BinOp}{x y:aV}:di (.bin o x y)=true:=nr rfl
def af9{o:UnOp}{x:aV}:di (.un o x)=true:=nr rfl
def Zm{k:IntKind}{x:aV}:di (.cvi k x)=true:=nr rfl
theorem kH{x:aV}:di (.b2s x)=true:=nr rfl
def Nr{z:List T}{ps:List (Nat×Nat×aV)}:di (.build z ps)=true:=nr rfl
def aga{x:aV}{o:Nat}:di (.fa x o)=true:=nr rfl
def Zp{x:aV}{o m:Nat}{g:Bool}:di (.fld x o m g)=true:=nr rfl
def agb{x y:aV}{m:Nat}:di (.ia x y m)=true:=nr rfl
def Zq{x y:aV}{m k:Nat}:di (.iaA x y m k)=true:=nr rfl
def Zt{x:aV}{j:Nat}:di (.ext x j)=true:=nr rfl
def Tl{x:aV}:di (.lenV x)=true:=nr rfl
def agc{g:Bool}{as:List aV}:di (.mm g as)=true:=nr rfl
def Zu{x:aV}:di (.nck x)=true:=nr rfl
def Zv{m:Nat}{x:aV}{l h:Option aV}:di (.slV m x l h none)=true:=nr rfl
def Q.plain:Q BB→Prop
 | .ret (.val _ r)=>r= []
 | .fail=>True
 | .rd _ _ _=>False
 | .new _=>False
theorem Q.plain_run{h:Sp→Nat→ah}{nx:Nat}: ∀(q:Q BB),q.plain→ ∀{v:T} {r:List Up},q.run h nx=some (.val v r)→r= []∧q.asks h nx=false∧q.log h nx= []
 | .ret (.val _ _),hc,v,r,hr=>by simp[Q.run]at hr;obtain⟨rfl,rfl⟩:=hr;exact⟨hc,rfl,rfl⟩
 | .fail,hc,v,r,hr=>by simp[Q.run]at hr
 | .rd sp k f,hc,v,r,hr=>hc.elim
 | .new f,hc,v,r,hr=>hc.elim
def gH{o:Option T}:(val o).plain:=by cases o <;> simp[val,Q.plain]
def Zw{d:Nat}{ρ:aV→T}{op:mP}(h:di op=true):(bB d ρ op).plain∧bD ρ op=none:=by
 refine⟨?_,by cases op <;> first|rfl|(simp[di]at h)⟩
 cases op with
 |mv x=>exact rfl
 |pick c a b=>simp only[bB];split <;> simp[Q.plain]
 |bin op x y=>exact gH
 |eq neg k x y=>exact gH
 |un op x=>exact gH
 |cvi k x=>simp only[bB];split <;> simp[Q.plain]
 |b2s x=>simp only[bB];repeat' split
         all_goals trivial
 |mkfn f a c=>exact rfl
 |build z ps=>
  simp only[bB]
  by_cases D:(ps.all fun p=>decide ((cellsOf (ρ p.2.2)).length=p.2.1)&&noTup (ρ p.2.2))=true
  ·rw[if_pos D];exact gH
  ·rw[if_neg D];trivial
 |slS x l h=>
  simp only[bB]
  split
  ·split
   ·split <;> simp[Q.plain]
   ·trivial
  ·trivial
 |fa x off=>
  simp only[bB]
  split
  ·split <;> simp[Q.plain]
  ·exact rfl
  ·trivial
 |fld x off m ag=>
  simp only[bB]
  split
  ·exact gH
  ·trivial
 |ia x r sz=>
  simp only[bB]
  split
  ·split <;> simp[Q.plain]
  ·split <;> simp[Q.plain]
  ·trivial
 |iaA x r len sz=>
  simp only[bB]
  split
  ·split <;> simp[Q.plain]
  ·split <;> simp[Q.plain]
  ·trivial
 |ixS x r=>
  simp only[bB]
  split
  ·split <;> simp[Q.plain]
  ·trivial
 |ixA x r len sz ag=>
  simp only[bB]
  split
  ·split
   ·exact gH
   ·trivial
  ·trivial
 |ext x j=>
  simp only[bB]
  split
  ·exact gH
  ·trivial
 |lenS x=>simp only[bB];split <;> simp[Q.plain]
 |lenV x=>exact gH
 |lenC m=>exact rfl
 |mm b as=>
  simp only[bB]
  split
  ·exact gH
  ·trivial
 |nck x=>simp only[bB];split <;> simp[Q.plain]
 |slV sz x l h F=>
  cases F with
  |some m=>simp[di]at h
  |none=>
   simp only[bB]
   split
   ·trivial
   ·split
    ·unfold zp
     split
     ·split <;> simp[Q.bind,Q.plain]
     ·split <;> simp[Q.bind,Q.plain]
     ·split <;> simp[Q.bind,Q.plain]
     ·trivial
    ·rename_i H;exact absurd H yv
    ·trivial
 |_=>simp[di]at h
def ke(E:Env)(call:ku)(n:Nat)(ds:List (List Nat×aG))(bu:List FP)(x:Option St):Option St:=x.bind (aK E call n ds bu)
def meets(u:List Nat)(bu:List FP)(fp:FP):Bool:=u.all fun i=>apart (aH ⟨true,[],[]⟩ bu i) fp
section
variable{E:Env}{call:ku}{n:Nat}{fr:Fr}{lh:aE ah}{sh:List ah}{ds:List (List Nat×aG)}{bu:List FP}{u:List Nat}{d:Option Nat}
def agd{st:St}:ke E call n ds bu (some st)=aK E call n ds bu st:=rfl
def age:ke E call n ds bu none=none:=rfl
def aoL{c:Prop}[Decidable c]{x y:Option St}:ke E call n ds bu (if c then x else y)=if c then ke E call n ds bu x else ke E call n ds bu y:=by split <;> rfl
def Tn{fp:FP}:meets [] bu fp=true:=rfl
def Ns{i:Nat}{fp:FP}:meets (i::u) bu fp=(apart (aH ⟨true,[],[]⟩ bu i) fp&&meets u bu fp):=rfl
theorem rf:meets u bu fW=true:=by
 unfold meets
 rw[List.all_eq_true]
 intro i _
 exact Cu _
def To{st:St}:DC E n (.draws ds) st=(aK E (ae E) n ds [] st).map fun r=>(.nrm,r):=J7
theorem nN{o:aG}{fp:FP}{st:St}(h:bp E call n o st≠none→bU E call o st=some fp):
  aK E call n ((u,o)::ds) bu st=if meets u bu fp=true then ke E call n ds (bu++ [fp]) (aj E call n [o] st)else none:=by
 simp only[aK]
 unfold meets ke
 cases r:bp E call n o st with
 |none=>
  have h1:aj E call n [o] st=none:=by simp only[aj,r]
  rw[h1]
  cases bU E call o st with
  |none=>simp
  |some D=>simp
 |some s=>
  have h1:aj E call n [o] st=some s:=by simp only[aj,r]
  rw[h1,h (by rw[r];simp)]
  rfl
def qy{op:mP}{st:St}{q:Q BB}(H:bD st.rho op=none)(J:bB (d.getD 0) st.rho op=q)(F:bp E call n ⟨d,op,none⟩ st≠none):
  ∃v D,q.run st.get st.sh.length=some (.val v D)∧((q.asks st.get st.sh.length||inB st D)=true→bU E call ⟨d,op,none⟩ st=some ⟨q.asks st.get st.sh.length,q.log st.get st.sh.length,cW D⟩):=by
 subst J
 unfold bp at F
 simp only[H]at F
 cases I:(bB (d.getD 0) st.rho op).run st.get st.sh.length with
 |none=>simp only[I]at F;exact absurd rfl F
 |some r=>
  obtain⟨v,D⟩:=r
  refine⟨v,D,rfl,fun K=> ?_⟩
  unfold bU
  simp only[H,I]
  rw[if_pos K]
def aoM{op:mP}(H:di op=true):aK E call n ((u,⟨d,op,none⟩)::ds) bu ⟨fr,lh,sh⟩=ke E call n ds (bu++ [fW]) (aj E call n [⟨d,op,none⟩] ⟨fr,lh,sh⟩):=by
 rw[nN (fp:=fW),rf,if_pos rfl]
 intro D
 obtain⟨I,J⟩:=Zw (d:=d.getD 0) (ρ:=(St.mk fr lh sh).rho) H
 unfold bp at D
 unfold bU
 simp only[J]at D ⊢
 cases F:(bB (d.getD 0) (St.mk fr lh sh).rho op).run (St.mk fr lh sh).get sh.length with
 |none=>simp only[F]at D;exact absurd rfl D
 |some r=>
  obtain⟨v,K⟩:=r
  obtain⟨rfl,N,O⟩:=Q.plain_run _ I F
  simp only[N,O,inB,List.all_nil,Bool.or_true,if_true,cW,List.map_nil]
  rfl
def ng:T→List (Sp×Nat)
 | .ptr sp k _ _=> [(sp,k)]
 |_=> []
def Zx{cs:List T}:ng (.vp cs)= []:=rfl
def Tp{sp:Sp}{k g off:Nat}:ng (.ptr sp k g off)= [(sp,k)]:=rfl
theorem Q.log_bind{α β:Type}{h:Sp→Nat→ah}{nx:Nat}{f:α→Q β}(r: ∀a,(f a).log h nx= []): ∀q:Q α,(q.bind f).log h nx=q.log h nx
 | .ret a=>r a
 | .fail=>rfl
 | .rd sp k g=>by show(sp,k)::((g (h sp k)).bind f).log h nx=(sp,k)::(g (h sp k)).log h nx;rw[Q.log_bind r (g (h sp k))]
 | .new g=>Q.log_bind r (g nx)
def aHv{x:aV}{m:Nat}{ag:Bool}:aK E call n ((u,⟨d,.ld x m ag,none⟩)::ds) bu ⟨fr,lh,sh⟩=
  if meets u bu ⟨false,ng (rd fr x),[]⟩=true then ke E call n ds (bu++ [⟨false,ng (rd fr x),[]⟩]) (aj E call n [⟨d,.ld x m ag,none⟩] ⟨fr,lh,sh⟩)else none:=by
 refine nN ?_
 intro D
 obtain⟨I,J⟩:=GR (d:=d.getD 0) (ρ:=(St.mk fr lh sh).rho) (op:= .ld x m ag) rfl
 unfold bp at D
 unfold bU
 simp only[J]at D ⊢
 cases H:(bB (d.getD 0) (St.mk fr lh sh).rho (.ld x m ag)).run (St.mk fr lh sh).get sh.length with
 |none=>simp only[H]at D;exact absurd rfl D
 |some r=>
  obtain⟨v,K⟩:=r
  obtain⟨rfl,N⟩:=Q.calm_run _ I H
  have O:(bB (d.getD 0) (St.mk fr lh sh).rho (.ld x m ag)).log (St.mk fr lh sh).get sh.length=ng (rd fr x):=by
   rw[dw]
   simp only[bB]
   rw[Q.log_bind (fun a=>rfl)]
   unfold Gm ng
   cases hx:rd fr x <;> try rfl
   ·simp only[];generalize Ev.part _ _ _ _=o;cases o <;> rfl
   ·rename_i sp k g off
    simp only[Q.log]
    congr 1
    generalize (St.mk fr lh sh).get sp k=e
    obtain⟨U,ob⟩:=e
    by_cases F:U=g
    ·cases ob with
     |cells cs V bx=>simp only[F,if_true];generalize Ev.part _ _ _ _=o;cases o <;> rfl
     |_=>simp only[F,if_true];rfl
    ·simp only[F,if_false];rfl
  simp only[N,O,inB,List.all_nil,Bool.or_true,if_true,cW,List.map_nil]
theorem Fj{keep:Bool}{m:Nat}{h:Sp→Nat→ah}{nx:Nat}: ∀(ts:List T),ts.all froz=true→(bo (fz keep (m+2)) ts).log h nx= []
 | [],_=>rfl
 |t::ts,r=>by
  simp only[List.all_cons,Bool.and_eq_true]at r
  simp only[bo,kb r.1,Q.bind]
  rw[Q.log_bind (fun a=>rfl),Fj ts r.2]
def amL{f:Nat}{af:ai}{as:List aV}(H:E.fn f=some af)(I:af.eff=false)(J:af.own=none)(F:(as.map (rd fr)).all froz=true):
  aK E call n ((u,⟨d,.callf f as,none⟩)::ds) bu ⟨fr,lh,sh⟩=ke E call n ds (bu++ [fW]) (aj E call n [⟨d,.callf f as,none⟩] ⟨fr,lh,sh⟩):=by
 rw[nN (fp:=fW),rf,if_pos rfl]
 intro D
 unfold bp at D
 unfold bU
 have K:bD (St.mk fr lh sh).rho (.callf f as)=some (some (f,as.map (rd fr))):=by rw[dw];rfl
 simp only[K]at D ⊢
 rw[JC H I J F]at D
 unfold eN
 have h1:(bo (fz af.eff aJ) (as.map (rd fr))).run (St.mk fr lh sh).get sh.length=some (as.map (rd fr),[]):=by
  have:=wi (lh:=lh) (sh:=sh) (keep:=af.eff) F
  unfold Aa at this
  rw[mj];exact this
 simp only[H]
 rw[h1]
 simp only[inB,List.all_nil,Bool.not_true,Bool.false_eq_true,if_false,I,J]
 cases hc:call f (as.map (rd fr)) []with
 |none=>rw[hc]at D;exact absurd rfl D
 |some r=>
  simp only[cW,List.map_nil,ite_self]
  have:(bo (fz false aJ) (as.map (rd fr))).log (St.mk fr lh sh).get sh.length= []:=Fj _ F
  rw[this];rfl
def aBg{z:List T}{len:Nat}{ps:List (Nat×aV)}(H:(ps.map fun p=>rd fr p.2).all froz=true):
  aK E call n ((u,⟨d,.bsl z len ps,none⟩)::ds) bu ⟨fr,lh,sh⟩=ke E call n ds (bu++ [fW]) (aj E call n [⟨d,.bsl z len ps,none⟩] ⟨fr,lh,sh⟩):=by
 rw[nN (fp:=fW),rf,if_pos rfl]
 intro r
 have h1:bo (fz false aJ) (ps.map fun p=>rd fr p.2)= .ret (ps.map (fun p=>rd fr p.2),[]):=by
  have: ∀(ts:List T),ts.all froz=true→bo (fz false aJ) ts= .ret (ts,[]):=by
   intro ts
   induction ts with
   |nil=>intro _;rfl
   |cons t ts ih=>
    intro D
    simp only[List.all_cons,Bool.and_eq_true]at D
    rw[bo,ih D.2]
    unfold aJ
    rw[kb D.1];rfl
  exact this _ H
 obtain⟨v,I,hr,F⟩:=qy (q:=if((ps.map fun p=>rd fr p.2).all fun v=>decide ((cellsOf v).length=z.length)&&noTup v)=true then(match lu (repl z len) ((ps.map fun p=>p.1*z.length).zip ((ps.map fun p=>rd fr p.2).map cellsOf))with|some cs=>Q.ret (.val (.sl cs len true) [])|none=> .fail)else .fail) (by rfl) (by rw[dw];simp only[bB];rw[h1];rfl) r
 split at hr
 ·split at hr
  ·simp[Q.run]at hr
   obtain⟨rfl,rfl⟩:=hr
   rename_i J _ _ K
   rw[if_pos J,K]at F
   exact F rfl
  ·simp[Q.run]at hr
 ·simp[Q.run]at hr
def agf{r:Nat}{z:List T}:aK E call n ((u,⟨some r,.alloc z false,none⟩)::ds) bu ⟨fr,lh,sh⟩=
  if meets u bu ⟨false,[(.L,r)],[(.L,r)]⟩=true then ke E call n ds (bu++ [⟨false,[(.L,r)],[(.L,r)]⟩]) (aj E call n [⟨some r,.alloc z false,none⟩] ⟨fr,lh,sh⟩)else none:=
 nN fun _=>rfl
def aoN{r:Nat}{z:List T}{bytes:Nat}{x:aV}:aK E call n ((u,⟨some r,.mksl z bytes x false,none⟩)::ds) bu ⟨fr,lh,sh⟩=
  if meets u bu ⟨false,[(.L,r)],[(.L,r)]⟩=true then ke E call n ds (bu++ [⟨false,[(.L,r)],[(.L,r)]⟩]) (aj E call n [⟨some r,.mksl z bytes x false,none⟩] ⟨fr,lh,sh⟩)else none:=by
 refine nN fun D=> ?_
 cases I:asNat (rd fr x)with
 |none=>
  obtain⟨v,F,hr,H⟩:=qy (q:= .fail) (by rfl) (by rw[dw];simp only[bB,I]) D
  simp[Q.run]at hr
 |some k=>
  obtain⟨v,F,hr,H⟩:=qy (q:=if k*bytes≤roomy&&k≤roomy then jE r false (.cells (repl z k) 0 (UR z)) (fun sp k' g=> .isl sp k' g 0 k z.length)else .fail) (by rfl) (by rw[dw];simp only[bB,I];rfl) D
  split at hr
  ·rename_i J
   rw[if_pos J]at H
   simp[jE,Q.run]at hr
   obtain⟨rfl,rfl⟩:=hr
   exact H rfl
  ·simp[Q.run]at hr
def agh:T→Bool
 | .ptr .L .. =>true
 |_=>false
def Zy{k g off:Nat}:agh (.ptr .L k g off)=true:=nr rfl
def aHw{x v:aV}{m:Nat}(hx:agh (rd fr x)=true)(K:froz (rd fr v)=true):aK E call n ((u,⟨none,.st x v m,none⟩)::ds) bu ⟨fr,lh,sh⟩=
  if meets u bu ⟨false,ng (rd fr x),ng (rd fr x)⟩=true then ke E call n ds (bu++ [⟨false,ng (rd fr x),ng (rd fr x)⟩]) (aj E call n [⟨none,.st x v m,none⟩] ⟨fr,lh,sh⟩)else none:=by
 refine nN fun F=> ?_
 cases D:rd fr x with
 |ptr sp k g off=>
  cases sp with
  |S=>rw[D]at hx;simp[agh]at hx
  |L=>
   by_cases J:(decide ((cellsOf (rd fr v)).length≠m)|| !noTup (rd fr v))=true
   ·obtain⟨w,I,hr,r⟩:=qy (q:= .fail) (by rfl) (by rw[dw];simp only[bB,od,D];rw[if_pos J]) F
    simp[Q.run]at hr
   ·obtain⟨w,I,hr,r⟩:=qy (q:= .rd .L k (ae4 k g off m (rd fr v))) (by rfl) (by rw[dw];simp only[bB,od,D];rw[if_neg J];rfl) F
    simp only[Q.run,Q.log,Q.asks,PK]at hr r
    generalize ab lh k=e at hr r
    obtain⟨N,ob⟩:=e
    unfold ae4 at hr r
    by_cases H:N=g
    ·cases ob with
     |none=>simp[H,Q.run]at hr
     |map ks U z=>simp[H,Q.run]at hr
     |cells cs V bx=>
      simp only[H,if_true]at hr r
      split at hr
      ·rename_i hc
       rw[if_pos hc]at r
       cases bx with
       |true=>
        simp[Q.run]at hr
        obtain⟨rfl,rfl⟩:=hr
        exact r rfl
       |false=>
        unfold aJ at hr r
        simp only[Bool.false_and,Bool.false_eq_true,if_false]at hr r
        rw[kb K]at hr r
        simp only[Q.bind]at hr r
        split at hr
        ·simp[Q.run]at hr
        ·rename_i O
         rw[if_neg O]at r
         simp[Q.run]at hr
         obtain⟨rfl,rfl⟩:=hr
         exact r rfl
      ·simp[Q.run]at hr
    ·simp only[H,if_false,Q.run]at hr
     cases hr
 |_=>rw[D]at hx;simp[agh]at hx
def P0{op:mP}{j:Nat}{w:Bool}(h:aa fr j= .b w):aK E call n ((u,⟨d,op,some (j,w)⟩)::ds) bu ⟨fr,lh,sh⟩=aK E call n ((u,⟨d,op,none⟩)::ds) bu ⟨fr,lh,sh⟩:=by
 simp only[aK,bU,bp,h,if_true]
def Zz{op:mP}{j:Nat}(h:aa fr j= .b true):aK E call n ((u,⟨d,op,some (j,true)⟩)::ds) bu ⟨fr,lh,sh⟩=aK E call n ((u,⟨d,op,none⟩)::ds) bu ⟨fr,lh,sh⟩:=P0 h
def GZ{op:mP}{j:Nat}{w:Bool}(r:D3 n d)(h:aa fr j= .b (!w)∨aa fr j=aU):aK E call n ((u,⟨d,op,some (j,w)⟩)::ds) bu ⟨fr,lh,sh⟩=aK E call n ds (bu++ [fW]) ⟨sW fr d aU,lh,sh⟩:=by
 have D:bU E call ⟨d,op,some (j,w)⟩ ⟨fr,lh,sh⟩=some fW:=by
  unfold bU
  rcases h with h|h
  ·simp only[h];rw[if_neg (by cases w <;> simp)]
  ·simp only[h,aU]
 rw[nN (fp:=fW) (fun _=>D),rf,if_pos rfl]
 rcases h with h|h
 ·rw[Cl r h];rfl
 ·rw[PS r h];rfl
def ZB{r:Nat}{op:mP}{j:Nat}(D:r<n)(h:aa fr j= .b false):aK E call n ((u,⟨some r,op,some (j,true)⟩)::ds) bu ⟨fr,lh,sh⟩=aK E call n ds (bu++ [fW]) ⟨cN fr r aU,lh,sh⟩:=GZ (d:=some r) D (Or.inl h)
end
def fzW(m:Nat)(lh:aE ah)(sh:List ah)(keep:Bool)(v:T):Option (T×List Up):=(fz keep (m+1) v).run (St.mk .nil lh sh).get sh.length
def ub(m:Nat)(lh:aE ah)(sh:List ah)(keep:Bool)(r:List T):Option (List T×List Up):=(bo (fz keep (m+1)) r).run (St.mk .nil lh sh).get sh.length
section
variable{m:Nat}{lh:aE ah}{sh:List ah}{keep:Bool}
def yw{v:T}(h:froz1 v=true):fzW m lh sh keep v=some (v,[]):=by unfold fzW;rw[re h];rfl
theorem G0{k g off len sz:Nat}:fzW m lh sh keep (.isl .L k g off len sz)=Yv m lh sh k (ab lh k) g off len sz:=by
 cases keep <;> exact aAF (ab lh k)
def aoO{k g:Nat}:fzW m lh sh keep (.mp .L k g)=mpV k (ab lh k) g:=by
 cases keep <;> exact mpQ (ab lh k)
def ZE:ub m lh sh keep []=some ([],[]):=rfl
def Tq{v:T}{r:List T}:ub m lh sh keep (v::r)=(fzW m lh sh keep v).bind fun p=>(ub m lh sh keep r).bind fun q=>some (p.1::q.1,p.2++q.2):=by
 unfold ub fzW
 rw[bo,bz]
 congr 1
 funext p
 rw[bz]
 rfl
def Cv{r:List T}(h:r.all froz1=true):ub m lh sh keep r=some (r,[]):=by
 unfold ub;rw[iP r h];rfl
def ZF{cs:List T}:fzV lh sh keep (.agg cs)=(ub 6 lh sh keep cs).map fun q=>(.agg q.1,q.2):=ae2
def ZG{cs:List T}:fzV lh sh keep (.tup cs)=(ub 6 lh sh keep cs).map fun q=>(.tup q.1,q.2):=ae3
def ZH{cs:List T}:fzW (m+1) lh sh keep (.agg cs)=(ub m lh sh keep cs).map fun q=>(.agg q.1,q.2):=by
 unfold fzW ub
 rw[GO,bz]
 cases (bo (fz keep (m+1)) cs).run (St.mk .nil lh sh).get sh.length <;> rfl
def ZI{r:Bool}{v:T}:S4 lh sh r [v]=(fzV lh sh r v).map fun p=>(p.1,((St.mk .nil lh sh).ups p.2).sh):=rfl
def Ts{r:Bool}{v u:T}{D:List T}:S4 lh sh r (v::u::D)=(fzV lh sh r (.tup (v::u::D))).map fun p=>(p.1,((St.mk .nil lh sh).ups p.2).sh):=rfl
end
def aBh{x y:List Nat}:sS (.one .str) (.s x) (.s y)=some (decide (x=y)):=by
 simp only[sS,eL,Bool.beq_eq_decide_eq]
theorem aBi{k:IntKind}{x y:Int}:sS (.one .int) (.i k x) (.i k y)=some (decide (x=y)):=by
 simp_all[sS,eL,Bool.beq_eq_decide_eq]
theorem aoP{k:IntKind}{x y:Int}{s t:List Nat}:sS (.flat [.int,.str]) (.agg [.i k x,.s s]) (.agg [.i k y,.s t])=some (decide (x=y∧s=t)):=by
 simp only[sS,cg,eL,if_true,Bool.beq_eq_decide_eq]
 grind
theorem zP{x:List Nat}:isKey (.one .str) (.s x)=true:=nr rfl
theorem alk{k:IntKind}{x:Int}:isKey (.one .int) (.i k x)=true:=nr rfl
theorem ZJ{k:IntKind}{x:Int}{s:List Nat}:isKey (.flat [.int,.str]) (.agg [.i k x,.s s])=true:=nr rfl
def aBj(r:Option Bool)(D:Option (Option Nat)):Option (Option Nat):=
 match r with
 |some true=>some (some 0)
 |some false=>D.map fun r=>r.map (· +1)
 |none=>none
theorem Tu{kk:EK}{k x:T}{xs:List T}:hZ kk k (x::xs)=aBj (sS kk k x) (hZ kk k xs):=rfl
def lkF(F:List T)(z:T)(D:Bool)(r:Option (Option Nat)):Option T:=
 match r with
 |some (some i)=>F[i]?.map fun v=>if D=true then .tup [v,.b true]else v
 |some none=>some (if D=true then .tup [z,.b false]else z)
 |none=>none
theorem P1{kk:EK}{ks r:List T}{k z:T}{D:Bool}(h:isKey kk k=true):iN kk ks r k z D=lkF r z D (hZ kk k ks):=by
 grind [iN,lkF]
theorem Kn{r:List T}{z:T}{D:Bool}{i:Nat}:lkF r z D (some (some i))=r[i]?.map fun v=>if D=true then .tup [v,.b true]else v:=rfl
def aoQ(ks D:List T)(k v:T)(r:Option (Option Nat)):Option (List T×List T):=
 match r with
 |some (some i)=>some (ks.set i k,D.set i v)
 |some none=>some (ks++ [k],D++ [v])
 |none=>none
theorem agi{kk:EK}{ks r:List T}{k v:T}:l8 kk k v ks r=aoQ ks r k v (hZ kk k ks):=by
 grind [l8,aoQ]
theorem Tv{ks r:List T}{k v:T}:aoQ ks r k v (some none)=some (ks++ [k],r++ [v]):=rfl
theorem bZ{g r:Nat}{ks D:List T}{z:Bool}{F:EK}{k u:T}{H:Bool}:lkE ⟨r,.map ks D z⟩ g F k u H=if r=g then iN F ks D k u H else none:=rfl
theorem pJ{lh:aE ah}{kk g D:Nat}{ks F:List T}{r:EK}{k v:T}:muE lh kk ⟨D,.map ks F false⟩ g r k v=if D=g∧isKey r k=true then(l8 r k v ks F).map fun q=>jB lh kk ⟨g,.map q.1 q.2 false⟩else none:=rfl
section
variable{E:Env}{call:ku}{n:Nat}{fr:Fr}{lh:aE ah}{sh:List ah}{os:List aG}{d:Nat}
def ZK{z:List T}(r:d<n):aj E call n (⟨some d,.alloc z true,none⟩::os) ⟨fr,lh,sh⟩=aj E call n os ⟨cN fr d (.ptr .S sh.length 1 0),lh,bI sh sh.length ⟨1,.cells z 0 true⟩⟩:=by
 rw[lA (by rfl) (show D3 n (some d)from r)];rfl
def ZL(r:d<n):aj E call n (⟨some d,.mkmap true,none⟩::os) ⟨fr,lh,sh⟩=aj E call n os ⟨cN fr d (.mp .S sh.length 1),lh,bI sh sh.length ⟨1,.map [] [] false⟩⟩:=by
 rw[lA (by rfl) (show D3 n (some d)from r)];rfl
def Tw{e:ah}{l:List ah}:aI (e::l) 0=e:=rfl
theorem sE{e:ah}{l:List ah}{k:Nat}:aI (e::l) (k+1)=aI l k:=rfl
def ZN{v:ah}:bI [] 0 v= [v]:=rfl
def Tx{e v:ah}{l:List ah}:bI (e::l) 0 v=v::l:=rfl
theorem sF{e v:ah}{l:List ah}{k:Nat}:bI (e::l) (k+1) v=e::bI l k v:=rfl
def Cw(lh:aE ah)(sh:List ah)(k:Nat)(e:ah)(g off:Nat)(v:T)(m:Nat):Option (aE ah×List ah):=
 match e with
 |⟨D,.cells cs r bx⟩=>if D=g∧(cellsOf v).length=m∧noTup v=true∧r≤off∧off+m≤cs.length then some (lh,bI sh k ⟨g,.cells (splice cs off (cellsOf v)) r bx⟩)else none
 |_=>none
def Ko(k g off m:Nat)(v:T)(e:ah):Q BB:=if e.g=g then match e.ob with
     | .cells cs r bx=>if r≤off&&off+m≤cs.length then
         (if bx&&Sp.S== .L then .ret (.val aU [(Sp.S,k,⟨g,.cells (splice cs off (cellsOf v)) r bx⟩)])
         else(fz (bx&&Sp.S== .S) aJ v).bind fun p=>if jQ p.2 .S k|| !noTup p.1||(cellsOf p.1).length≠m then .fail else .ret (.val aU (p.2++ [(Sp.S,k,⟨g,.cells (splice cs off (cellsOf p.1)) r bx⟩)])))
       else .fail
     |_=> .fail
    else .fail
def agj{k g off m:Nat}{v:T}(e:ah)(h1:(cellsOf v).length=m)(h2:noTup v=true)(H:froz v=true):iA lh sh (Q.run (St.mk .nil lh sh).get sh.length (Ko k g off m v e))=Cw lh sh k e g off v m:=by
 obtain⟨I,ob⟩:=e
 unfold Cw Ko
 by_cases J:I=g
 ·subst J
  cases ob with
  |none=>simp[Q.run,iA]
  |map ks K z=>simp[Q.run,iA]
  |cells cs F bx=>
   by_cases r:F≤off∧off+m≤cs.length
   ·have D:(decide (F≤off)&&decide (off+m≤cs.length))=true:=by simp[r.1,r.2]
    have MU:(bx&&Sp.S==Sp.L)=false:=by cases bx <;> rfl
    unfold aJ
    simp only[if_true,D,MU,Bool.false_eq_true,if_false]
    rw[kb H]
    have Af:(jQ [] Sp.S k|| !noTup v||decide ((cellsOf v).length≠m))=false:=by simp[jQ,h1,h2]
    simp only[Q.bind,Af,Bool.false_eq_true,if_false,Q.run,iA]
    rw[if_pos ⟨trivial,h1,h2,r⟩]
    rfl
   grind [Bool.false_eq_true,Q.run,iA]
 grind [Q.run,iA]
def aBk{k g off m:Nat}{v:T}(r:froz v=true):stV lh sh (.ptr .S k g off) v m=Cw lh sh k (aI sh k) g off v m:=by
 by_cases h1:(cellsOf v).length=m
 ·cases h2:noTup v with
  |false=>
   unfold stV od
   have:(decide ((cellsOf v).length≠m)|| !noTup v)=true:=by simp[h2]
   simp only[this,if_true,Q.run]
   unfold Cw
   grind
  |true=>
   unfold stV od
   have:(decide ((cellsOf v).length≠m)|| !noTup v)=false:=by simp[h1,h2]
   simp only[this,Bool.false_eq_true,if_false]
   exact agj (aI sh k) h1 h2 r
 ·unfold stV od
  have:(decide ((cellsOf v).length≠m)|| !noTup v)=true:=by simp[h1]
  simp only[this,if_true,Q.run]
  unfold Cw
  grind
theorem dP{k g D off m r:Nat}{cs:List T}{bx:Bool}{v:T}:Cw lh sh k ⟨D,.cells cs r bx⟩ g off v m=if D=g∧(cellsOf v).length=m∧noTup v=true∧r≤off∧off+m≤cs.length then some (lh,bI sh k ⟨g,.cells (splice cs off (cellsOf v)) r bx⟩)else none:=rfl
end
section
variable{E:Env}{call:ku}{n:Nat}{fr:Fr}{lh:aE ah}{sh:List ah}{ds:List (List Nat×aG)}{bu:List FP}{u:List Nat}{d:Option Nat}
def nh:T→List (Sp×Nat)
 | .mp sp k _=> [(sp,k)]
 |_=> []
def ZO{sp:Sp}{k g:Nat}:nh (.mp sp k g)= [(sp,k)]:=rfl
theorem agk{h:Sp→Nat→ah}{nx:Nat}{o:Option T}:(val o).log h nx= []:=by cases o <;> rfl
def aHy{r:EK}{m k:aV}{z:T}{D:Bool}:aK E call n ((u,⟨d,.lk r m k z D,none⟩)::ds) bu ⟨fr,lh,sh⟩=
  if meets u bu ⟨false,nh (rd fr m),[]⟩=true then ke E call n ds (bu++ [⟨false,nh (rd fr m),[]⟩]) (aj E call n [⟨d,.lk r m k z D,none⟩] ⟨fr,lh,sh⟩)else none:=by
 refine nN fun F=> ?_
 obtain⟨I,J⟩:=GR (d:=d.getD 0) (ρ:=(St.mk fr lh sh).rho) (op:= .lk r m k z D) rfl
 obtain⟨v,K,hr,N⟩:=qy J rfl F
 obtain⟨rfl,H⟩:=Q.calm_run _ I hr
 have O:(bB (d.getD 0) (St.mk fr lh sh).rho (.lk r m k z D)).log (St.mk fr lh sh).get sh.length=nh (rd fr m):=by
  rw[dw]
  grind [nh,bB,Q.log,agk]
 have:=N (by rw[H];simp[inB])
 rw[this,H,O];rfl
def agl:T→Bool
 | .mp .L .. =>true
 |_=>false
def agm{k g:Nat}:agl (.mp .L k g)=true:=nr rfl
def aHz{D:EK}{m k v:aV}(hx:agl (rd fr m)=true)(I:froz (rd fr v)=true):aK E call n ((u,⟨none,.mu D m k v,none⟩)::ds) bu ⟨fr,lh,sh⟩=
  if meets u bu ⟨false,nh (rd fr m),nh (rd fr m)⟩=true then ke E call n ds (bu++ [⟨false,nh (rd fr m),nh (rd fr m)⟩]) (aj E call n [⟨none,.mu D m k v,none⟩] ⟨fr,lh,sh⟩)else none:=by
 refine nN fun F=> ?_
 cases H:rd fr m with
 |mp sp kk g=>
  cases sp with
  |S=>grind [agl]
  |L=>
   obtain⟨w,J,hr,r⟩:=qy (q:= .rd .L kk (ae8 kk g D (rd fr k) (rd fr v))) (by rfl) (by rw[dw];simp only[bB,H];rfl) F
   simp only[Q.run,Q.log,Q.asks,PK]at hr r
   generalize ab lh kk=e at hr r
   obtain⟨K,ob⟩:=e
   unfold ae8 at hr r
   by_cases N:(decide (K=g)&&isKey D (rd fr k))=true
   ·simp only[N,if_true]at hr r
    cases ob with
    |none=>simp[Q.run]at hr
    |cells cs V bx=>simp[Q.run]at hr
    |map ks W O=>
     cases O with
     |true=>simp[Q.run]at hr
     |false=>
      simp only[]at hr r
      unfold aJ at hr r
      rw[kb I]at hr r
      simp only[Q.bind]at hr r
      split at hr
      ·rename_i q U
       simp only[jQ,List.any_nil,Bool.false_eq_true,if_false,Q.run,Option.some.injEq,BB.val.injEq]at hr
       obtain⟨rfl,rfl⟩:=hr
       rw[U]at r
       simp only[jQ,List.any_nil,Bool.false_eq_true,if_false]at r
       exact r rfl
      ·simp[Q.run]at hr
   grind [Bool.false_eq_true,Q.run]
 |_=>grind [agl]
end
section
variable{E:Env}{call:ku}{n:Nat}{fr:Fr}{lh:aE ah}{sh:List ah}{ds:List (List Nat×aG)}{bu:List FP}{d:Option Nat}
theorem P2{D:Bool}{F sz bytes:Nat}{s x:T}{v:T}{r:List Up}{st:St}(hs:notS s=true)(h:(kq F sz bytes s x false D).run st.get st.sh.length=some (.val v r)):inB st r=true:=by
 unfold kq at h
 rw[bz]at h
 cases hx:(cu sz x).run st.get st.sh.length with
 |none=>grind
 |some p=>
  rw[hx]at h
  simp only[Option.bind_some]at h
  split at h
  ·split at h
   ·simp[Q.run]at h;rw[h.2];rfl
   ·simp[Q.run]at h;rw[h.2];rfl
   ·simp[Q.run]at h;rw[h.2];rfl
   ·simp[Q.run]at h
  ·split at h
   ·split at h
    ·simp[jE,Q.run]at h;rw[←h.2];rfl
    ·simp[Q.run]at h
   ·split at h
    ·simp[jE,Q.run]at h;rw[←h.2];rfl
    ·simp[Q.run]at h
   ·rename_i sp k g off len H
    cases sp with
    |S=>simp[notS]at hs
    |L=>
     split at h
     ·simp only[Q.run]at h
      split at h
      ·split at h
       ·split at h
        ·simp[Q.run]at h;rw[←h.2];rfl
        ·simp[Q.run]at h
       ·simp[Q.run]at h
      ·simp[Q.run]at h
     ·simp[Q.run]at h
   ·simp[Q.run]at h
def UY:List (List Nat×aG)→Bool
 | []=>true
 |(u,_)::ds=>u.isEmpty&&UY ds
def agn:UY []=true:=nr rfl
def ZQ{o:aG}{ds:List (List Nat×aG)}:UY (([],o)::ds)=UY ds:=nr rfl
theorem Cx: ∀(ds:List (List Nat×aG)) (bu r:List FP) (st:St),UY ds=true→aK E call n ds bu st=aK E call n ds r st
 | [],_,_,_,_=>rfl
 |(u,o)::ds,bu,r,st,h=>by
  simp only[UY,Bool.and_eq_true,List.isEmpty_iff]at h
  obtain⟨rfl,h⟩:=h
  simp only[aK,List.all_nil,if_true]
  cases bU E call o st with
  |none=>rfl
  |some fp=>
   simp only[]
   cases bp E call n o st with
   |none=>rfl
   |some s=>exact Cx ds _ _ s h
def aoR{r:Bool}{sz bytes:Nat}{s x:aV}(hs:notS (rd fr s)=true)(H:UY ds=true):aK E call n (([],⟨d,.app sz bytes s x false r,none⟩)::ds) bu ⟨fr,lh,sh⟩=
  ke E call n ds (bu++ [fW]) (aj E call n [⟨d,.app sz bytes s x false r,none⟩] ⟨fr,lh,sh⟩):=by
 rw[nN (fp:=(bU E call ⟨d,.app sz bytes s x false r,none⟩ ⟨fr,lh,sh⟩).getD fW)]
 ·show ke _ _ _ _ _ _=_
  unfold ke
  cases aj E call n [⟨d,.app sz bytes s x false r,none⟩] ⟨fr,lh,sh⟩with
  |none=>rfl
  |some s=>grind [Cx]
 ·intro D
  obtain⟨v,F,hr,I⟩:=qy (q:=kq (d.getD 0) sz bytes (rd fr s) (rd fr x) false r) (by rfl) (by rw[dw];rfl) D
  grind [P2]
end
theorem Nt(a:ak){E:Env}{n:Nat}{st:St}:DC E n (.loop a) st=andThen (DC E n a st) (DC E n (.loop a)):=sD
end Go.Ev
