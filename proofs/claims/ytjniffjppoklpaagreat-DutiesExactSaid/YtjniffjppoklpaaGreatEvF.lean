/- A tree evaluator over the model, proved against it (part F): where it answers, the call returns that answer. Conditions: none beyond its theorems' own. -/
import Derived.Test.YtjniffjppoklpaaGreatEvE
set_option linter.unusedSimpArgs false
set_option linter.unusedVariables false
namespace Go.Ev
open Go
theorem ald{x:Bool}:froz (.b x)=true:=nr rfl
theorem ale{k:IntKind}{n:Int}:froz (.i k n)=true:=nr rfl
theorem alf{l:List Nat}:froz (.s l)=true:=nr rfl
theorem OU:froz .nilsl=true:=nr rfl
theorem ad3{cs:List T}{n:Nat}{e:Bool}:froz (.sl cs n e)=true:=nr rfl
theorem ad4{cs:List T}:froz (.vp cs)=true:=nr rfl
theorem Me{cs:List T}:froz (.agg cs)=cs.all froz1:=nr rfl
theorem Yr{cs:List T}:froz (.tup cs)=cs.all froz1:=nr rfl
theorem ad5{x:Bool}:froz1 (.b x)=true:=nr rfl
theorem As{k:IntKind}{n:Int}:froz1 (.i k n)=true:=nr rfl
theorem Jd{l:List Nat}:froz1 (.s l)=true:=nr rfl
theorem Mf:froz1 .nilsl=true:=nr rfl
theorem Ys{cs:List T}{n:Nat}{e:Bool}:froz1 (.sl cs n e)=true:=nr rfl
theorem Je:froz1 .nilptr=true:=nr rfl
theorem Tw{cs:List T}:cellsOf (.agg cs)=cs:=nr rfl
theorem ad6{x:Bool}:cellsOf (.b x)= [.b x]:=nr rfl
theorem ad7{k:IntKind}{n:Int}:cellsOf (.i k n)= [.i k n]:=nr rfl
theorem ad8{l:List Nat}:cellsOf (.s l)= [.s l]:=nr rfl
theorem Mg:cellsOf .nilsl= [.nilsl]:=nr rfl
theorem Yt{cs:List T}{n:Nat}{e:Bool}:cellsOf (.sl cs n e)= [.sl cs n e]:=nr rfl
theorem Tx{sp:Sp}{a b c d e:Nat}:cellsOf (.isl sp a b c d e)= [.isl sp a b c d e]:=nr rfl
theorem Yu{cs:List T}:cellsOf (.vp cs)= [.vp cs]:=nr rfl
theorem Yv{sp:Sp}{a b:Nat}:cellsOf (.mp sp a b)= [.mp sp a b]:=nr rfl
theorem Ty{cs:List T}:noTup (.agg cs)=true:=nr rfl
theorem ad9{x:Bool}:noTup (.b x)=true:=nr rfl
theorem aea{k:IntKind}{n:Int}:noTup (.i k n)=true:=nr rfl
theorem aeb{l:List Nat}:noTup (.s l)=true:=nr rfl
theorem Mh:noTup .nilsl=true:=nr rfl
theorem Yw{cs:List T}{n:Nat}{e:Bool}:noTup (.sl cs n e)=true:=nr rfl
theorem Tz{sp:Sp}{a b c d e:Nat}:noTup (.isl sp a b c d e)=true:=nr rfl
theorem Yx{cs:List T}:noTup (.vp cs)=true:=nr rfl
theorem Yy{sp:Sp}{a b:Nat}:noTup (.mp sp a b)=true:=nr rfl
theorem OV:notS .nilsl=true:=nr rfl
theorem Yz{a b c d e:Nat}:notS (.isl .L a b c d e)=true:=nr rfl
theorem aec{a b:Nat}:notS (.mp .L a b)=true:=nr rfl
theorem aed{cs:List T}{n:Nat}{e:Bool}:wb (.sl cs n e)=some n:=nr rfl
theorem YA:lenI .nilsl=some (.i .i64 0):=nr rfl
theorem aee{cs:List T}{n:Nat}{e:Bool}:lenI (.sl cs n e)=some (.i .i64 n):=nr rfl
theorem YB{sp:Sp}{a b c d e:Nat}:lenI (.isl sp a b c d e)=some (.i .i64 d):=nr rfl
theorem YC{x:Bool}:scalar (.b x)=true:=nr rfl
theorem YD{k:IntKind}{n:Int}:scalar (.i k n)=true:=nr rfl
section
variable{lh:iL iy}{sh:List iy}{m g off k:Nat}{ag:Bool}
theorem alg{cs:List T}:ldV lh sh (.vp cs) m ag=Ev.part cs 0 m ag:=rfl
theorem auV:ldV lh sh (.ptr .L k g off) m ag=ldE (a6 lh k) g off m ag:=rfl
theorem auW:ldV lh sh (.ptr .S k g off) m ag=ldE (iM sh k) g off m ag:=rfl
theorem alh{cs:List T}:faV (.vp cs) off=if off≤cs.length then some (.vp (cs.drop off))else none:=rfl
theorem aef{sp:Sp}{o:Nat}:faV (.ptr sp k g o) off=some (.ptr sp k g (o+off)):=rfl
theorem YE{cs:List T}:ado (.agg cs) off m ag=Ev.part cs off m ag:=rfl
theorem aeg{cs:List T}:Tj (.vp cs)=some (.vp cs):=rfl
theorem YF{sp:Sp}{o:Nat}:Tj (.ptr sp k g o)=some (.ptr sp k g o):=rfl
theorem YG{r:List T}:adq (.tup r) m=r[m]? :=rfl
theorem aeh{l:List Nat}:QQ (.s l)=some (.i .i64 l.length):=rfl
theorem ali{kk r:IntKind}{n:Int}:adm kk (.i r n)=some (.i kk (wr kk n)):=rfl
theorem vi{m k g r off len sz wm:Nat}{lh:iL iy}{sh:List iy}{cs:List T}:Tl m lh sh k ⟨r,.cells cs wm false⟩ g off len sz=if r=g∧off+len*sz≤cs.length then some (.sl ((cs.drop off).take (len*sz)) len false,[(.L,k,⟨g,.cells cs cs.length false⟩)])else none:=rfl
theorem aei{k g D:Nat}{ks r:List T}{z:Bool}:mpV k ⟨D,.map ks r z⟩ g=if D=g then some (.vm ks r,[(.L,k,⟨g,.map ks r true⟩)])else none:=rfl
theorem Fp{g r off len sz D bytes wm:Nat}{p:Nat×List T}{cs:List T}:Tn lh k ⟨r,.cells cs wm false⟩ g off len sz D bytes p=if D=sz∧off=0∧(len+p.1)*bytes≤roomy∧r=g∧len*sz=cs.length then some (.isl .L k (g+1) 0 (len+p.1) sz,oK lh k ⟨g+1,.cells (cs++p.2) wm false⟩)else none:=rfl
theorem At{d sz bytes n:Nat}{cs:List T}:Ja lh d sz bytes .nilsl (n+1,cs)=if(n+1)*bytes≤roomy then some (.isl .L d ((a6 lh d).g+1) 0 (n+1) sz,oK lh d ⟨(a6 lh d).g+1,.cells cs 0 false⟩)else none:=by
 unfold Ja;rw[if_neg (Nat.succ_ne_zero n)]
theorem Mi{d sz r bytes n g off len:Nat}{cs:List T}:Ja lh d sz bytes (.isl .L k g off len r) (n+1,cs)=Tn lh k (a6 lh k) g off len sz r bytes (n+1,cs):=by
 unfold Ja;rw[if_neg (Nat.succ_ne_zero n)]
end
theorem tU{α:Type}{f:α→List T}{sz:Nat}(r: ∀x,(f x).length=sz): ∀xs:List α,(xs.flatMap f).length=xs.length*sz
 | []=>by simp
 |x::xs=>by simp[List.flatMap_cons,r,tU r xs,Nat.succ_mul,Nat.add_comm]
theorem BW{α:Type}{f:α→List T}{sz:Nat}(D: ∀x,(f x).length=sz): ∀(xs:List α) (k:Nat) (r:k<xs.length),(xs.flatMap f).drop (k*sz)=f xs[k]++(xs.drop (k+1)).flatMap f
 | [],k,r=>by simp at r
 |x::xs,0,r=>by grind
 |x::xs,k+1,r=>by
  have F:(k+1)*sz=(f x).length+k*sz:=by rw[D,Nat.succ_mul,Nat.add_comm]
  have H:List.drop ((f x).length+k*sz) (f x)= []:=List.drop_eq_nil_of_le (by omega)
  rw[List.flatMap_cons,F,List.drop_append,H,Nat.add_sub_cancel_left,BW D xs k (by simpa using r)]
  rfl
def ints(xs:List Int):List T:=xs.map (T.i .i64)
theorem kb(xs:List Int):(ints xs).length=xs.length:=by simp[ints]
theorem pa(xs:List Int)(k:Nat)(r:k<xs.length):(ints xs).drop k=T.i .i64 xs[k]::(ints xs).drop (k+1):=by
 rw[List.drop_eq_getElem_cons (by rw[kb];exact r)];simp[ints]
def iJ(v:T)(n:Nat)(cs:List T):Prop:=(v= .nilsl∧n=0∧cs= [])∨ ∃ex,v= .sl cs n ex
theorem iJ.len{v:T}{n:Nat}{cs:List T}(h:iJ v n cs):wb v=some n:=by
 rcases h with⟨rfl,rfl,_⟩|⟨ex,rfl⟩ <;> rfl
theorem iJ.lenI{v:T}{n:Nat}{cs:List T}(h:iJ v n cs):lenI v=some (.i .i64 (n:Int)):=adP h.len
theorem iJ.froz1{v:T}{n:Nat}{cs:List T}(h:iJ v n cs):froz1 v=true:=by
 rcases h with⟨rfl,_,_⟩|⟨ex,rfl⟩ <;> rfl
theorem iJ.froz{v:T}{n:Nat}{cs:List T}(h:iJ v n cs):froz v=true:=by
 rcases h with⟨rfl,_,_⟩|⟨ex,rfl⟩ <;> rfl
theorem iJ.cells{v:T}{n:Nat}{cs:List T}(h:iJ v n cs):cellsOf v= [v]:=by
 rcases h with⟨rfl,_,_⟩|⟨ex,rfl⟩ <;> rfl
theorem iJ.noTup{v:T}{n:Nat}{cs:List T}(h:iJ v n cs):noTup v=true:=by
 rcases h with⟨rfl,_,_⟩|⟨ex,rfl⟩ <;> rfl
theorem iJ.ia{v:T}{n sz k:Nat}{cs:List T}{kk:IntKind}(h:iJ v n cs)(r:cs.length=n*sz)(D:k<n):ng v (.i kk (k:Int)) sz=some (.vp (cs.drop (k*sz))):=by
 rcases h with⟨rfl,rfl,_⟩|⟨ex,rfl⟩
 ·omega
 grind [kG,Int.toNat_natCast,Nat.mul_le_mul_right]
theorem iJ.slC{v:T}{n sz:Nat}{cs:List T}{lh:iL iy}{sh:List iy}(h:iJ v n cs)(r:cs.length=n*sz):slC lh sh sz v=some (n,cs):=by
 rcases h with⟨rfl,rfl,rfl⟩|⟨ex,rfl⟩
 ·rfl
 ·rw[I9,if_pos r]
end Go.Ev
namespace Go.Ev
open Go
section
variable(E:Env)(n:Nat)(b:iA)(fr:Fr)(lh:iL iy)(sh:List iy)
noncomputable def pb:Fr:=match DC E n (.loop b) ⟨fr,lh,sh⟩with|some (_,st)=>st.fr|none=>fr
noncomputable def nh:iL iy:=match DC E n (.loop b) ⟨fr,lh,sh⟩with|some (_,st)=>st.lh|none=>lh
noncomputable def nB:List iy:=match DC E n (.loop b) ⟨fr,lh,sh⟩with|some (_,st)=>st.sh|none=>sh
end
section
variable{E:Env}{n:Nat}{b:iA}{fr:Fr}{lh:iL iy}{sh:List iy}{o:Out}
theorem YH{s:Nat}(h:(jU (.loop b)).contains s=false):an (pb E n b fr lh sh) s=an fr s:=by
 unfold pb
 cases r:DC E n (.loop b) ⟨fr,lh,sh⟩with
 |none=>rfl
 |some p=>obtain⟨o,st⟩:=p;exact lH r s h
def lO:List Nat→Nat
 | []=>0
 |s::r=>(1 <<< s) ||| lO r
theorem Jf(s:Nat): ∀l:List Nat,s∈l→(lO l).testBit s=true
 | [],h=>by simp at h
 |x::xs,h=>by
  rw[lO,Nat.testBit_or]
  rcases List.mem_cons.1 h with h|h
  ·grind
  ·rw[Jf s xs h];simp
theorem HJ{s:Nat}(h:(lO (jU (.loop b)) >>> s)%2=0):an (pb E n b fr lh sh) s=an fr s:=by
 refine YH ?_
 cases r:(jU (.loop b)).contains s with
 |false=>rfl
 |true=>
  have D:=Jf s _ (List.contains_iff_mem.1 r)
  grind [Nat.testBit]
theorem TA{P:Fr→iL iy→List iy→Prop}(h: ∃r D F,DC E n (.loop b) ⟨fr,lh,sh⟩=some (o,⟨r,D,F⟩)∧P r D F):
  DC E n (.loop b) ⟨fr,lh,sh⟩=some (o,⟨pb E n b fr lh sh,nh E n b fr lh sh,nB E n b fr lh sh⟩)∧P (pb E n b fr lh sh) (nh E n b fr lh sh) (nB E n b fr lh sh):=by
 grind [pb,nh,nB]
end
end Go.Ev
namespace Go.Ev
open Go
section
variable{a:Int}
theorem aej{k k':IntKind}{b:Int}:Ev.bin .shr (.i k a) (.i k' b)=if b<0 then none else some (.i k (a.fdiv (2 ^ (min b.toNat k.bits)))):=by
 simp only[Ev.bin,EG]
end
theorem ta{n:Int}(h:0≤n∧n≤18446744073709551615):wr .u64 n=n:=by grind [wr,lo,hi]
end Go.Ev
namespace Go.Ev
open Go
theorem Fq(x:FP):apart x oe=true:=by
 obtain⟨a,r,w⟩:=x
 simp[apart,nq,oe,NV]
theorem OW(x:FP):apart oe x=true:=by
 obtain⟨a,r,w⟩:=x
 simp[apart,nq,oe,NV]
theorem YI{r D w w':List (Sp×Nat)}:apart ⟨false,r,w⟩ ⟨false,D,w'⟩=(nq w D&&nq w w'&&nq r w'):=by
 simp[apart]
theorem OX{r:List (Sp×Nat)}:nq [] r=true:=rfl
theorem Mj{x:Sp×Nat}{xs r:List (Sp×Nat)}:nq (x::xs) r=(!r.contains x&&nq xs r):=rfl
theorem aek{x:Sp×Nat}:([]:List (Sp×Nat)).contains x=false:=rfl
theorem YJ{a c:Sp}{b d:Nat}{ys:List (Sp×Nat)}:((c,d)::ys).contains (a,b)=((decide (a=c)&&decide (b=d))||ys.contains (a,b)):=by
 rw[List.contains_cons]
 have:((a,b)==(c,d))=(decide (a=c)&&decide (b=d)):=by
  cases a <;> cases c <;> by_cases h:b=d <;> simp[h]
 rw[this]
def ny:nO→Bool
 | .mv _| .pick .. | .bin .. | .eq .. | .un .. | .cvi .. | .mkfn .. | .build .. | .slS .. | .fa .. | .fld .. | .ia .. | .iaA .. | .ixS .. | .ixA .. | .ext .. | .lenS _| .lenV _| .lenC _| .mm .. | .nck _=>true
 | .slV _ _ _ _ none=>true
 |_=>false
theorem ael{x:iS}:ny (.mv x)=true:=nr rfl
theorem TB{c a b:iS}:ny (.pick c a b)=true:=nr rfl
theorem YK{o:BinOp}{x y:iS}:ny (.bin o x y)=true:=nr rfl
theorem aem{o:UnOp}{x:iS}:ny (.un o x)=true:=nr rfl
theorem OY{z:List T}{r:List (Nat×Nat×iS)}:ny (.build z r)=true:=nr rfl
theorem aen{x:iS}{o:Nat}:ny (.fa x o)=true:=nr rfl
theorem YL{x:iS}{o m:Nat}{g:Bool}:ny (.fld x o m g)=true:=nr rfl
theorem aeo{x y:iS}{m:Nat}:ny (.ia x y m)=true:=nr rfl
theorem YM{x y:iS}{m k:Nat}:ny (.iaA x y m k)=true:=nr rfl
theorem YN{x:iS}{j:Nat}:ny (.ext x j)=true:=nr rfl
theorem TC{x:iS}:ny (.lenV x)=true:=nr rfl
theorem aep{g:Bool}{as:List iS}:ny (.mm g as)=true:=nr rfl
theorem YO{x:iS}:ny (.nck x)=true:=nr rfl
theorem YP{m:Nat}{x:iS}{l h:Option iS}:ny (.slV m x l h none)=true:=nr rfl
def Q.plain:Q EF→Prop
 | .ret (.val _ r)=>r= []
 | .fail=>True
 | .rd _ _ _=>False
 | .new _=>False
theorem Q.plain_run{h:Sp→Nat→iy}{nx:Nat}: ∀(q:Q EF),q.plain→ ∀{v:T} {r:List Up},q.run h nx=some (.val v r)→r= []∧q.asks h nx=false∧q.log h nx= []
 | .ret (.val _ _),D,v,r,F=>by simp[Q.run]at F;obtain⟨rfl,rfl⟩:=F;exact⟨D,rfl,rfl⟩
 | .fail,D,v,r,F=>by simp[Q.run]at F
 | .rd sp k f,D,v,r,F=>D.elim
 | .new f,D,v,r,F=>D.elim
theorem om{o:Option T}:(val o).plain:=by cases o <;> simp[val,Q.plain]
theorem YQ{d:Nat}{ρ:iS→T}{op:nO}(h:ny op=true):(jK d ρ op).plain∧jL ρ op=none:=by
 refine⟨?_,by cases op <;> first|rfl|(simp[ny]at h)⟩
 cases op with
 |mv x=>exact rfl
 |pick c a b=>simp only[jK];split <;> simp[Q.plain]
 |bin op x y=>exact om
 |eq neg k x y=>exact om
 |un op x=>exact om
 |cvi k x=>simp only[jK];split <;> simp[Q.plain]
 |mkfn f a c=>exact rfl
 |build z F=>
  simp only[jK]
  by_cases D:(F.all fun p=>decide ((cellsOf (ρ p.2.2)).length=p.2.1)&&noTup (ρ p.2.2))=true
  ·rw[if_pos D];exact om
  ·rw[if_neg D];trivial
 |slS x l h=>
  simp only[jK]
  split
  ·split
   ·split <;> simp[Q.plain]
   ·trivial
  ·trivial
 |fa x off=>
  simp only[jK]
  split
  ·split <;> simp[Q.plain]
  ·exact rfl
  ·trivial
 |fld x off m ag=>
  simp only[jK]
  split
  ·exact om
  ·trivial
 |ia x r sz=>
  simp only[jK]
  split
  ·split <;> simp[Q.plain]
  ·split <;> simp[Q.plain]
  ·trivial
 |iaA x r len sz=>
  simp only[jK]
  split
  ·split <;> simp[Q.plain]
  ·split <;> simp[Q.plain]
  ·trivial
 |ixS x r=>
  simp only[jK]
  split
  ·split <;> simp[Q.plain]
  ·trivial
 |ixA x r len sz ag=>
  simp only[jK]
  split
  ·split
   ·exact om
   ·trivial
  ·trivial
 |ext x j=>
  simp only[jK]
  split
  ·exact om
  ·trivial
 |lenS x=>simp only[jK];split <;> simp[Q.plain]
 |lenV x=>exact om
 |lenC m=>exact rfl
 |mm b as=>
  simp only[jK]
  split
  ·exact om
  ·trivial
 |nck x=>simp only[jK];split <;> simp[Q.plain]
 |slV sz x l h H=>
  cases H with
  |some m=>simp[ny]at h
  |none=>
   simp only[jK]
   split
   ·trivial
   ·split
    ·unfold Cw
     split
     ·split <;> simp[Q.bind,Q.plain]
     ·split <;> simp[Q.bind,Q.plain]
     ·split <;> simp[Q.bind,Q.plain]
     ·trivial
    ·rename_i I;exact absurd I (by simp)
    ·trivial
 |_=>simp[ny]at h
def ke(E:Env)(call:qT)(n:Nat)(ds:List (List Nat×iz))(jR:List FP)(x:Option St):Option St:=x.bind (jc E call n ds jR)
def meets(u:List Nat)(jR:List FP)(fp:FP):Bool:=u.all fun i=>apart (iN ⟨true,[],[]⟩ jR i) fp
section
variable{E:Env}{call:qT}{n:Nat}{fr:Fr}{lh:iL iy}{sh:List iy}{ds:List (List Nat×iz)}{jR:List FP}{u:List Nat}{d:Option Nat}
theorem aeq{st:St}:ke E call n ds jR (some st)=jc E call n ds jR st:=rfl
theorem alj{c:Prop}[Decidable c]{x y:Option St}:ke E call n ds jR (if c then x else y)=if c then ke E call n ds jR x else ke E call n ds jR y:=by split <;> rfl
theorem TD{fp:FP}:meets [] jR fp=true:=rfl
theorem OZ{i:Nat}{fp:FP}:meets (i::u) jR fp=(apart (iN ⟨true,[],[]⟩ jR i) fp&&meets u jR fp):=rfl
theorem wO:meets u jR oe=true:=by
 unfold meets
 rw[List.all_eq_true]
 intro i _
 exact Fq _
theorem TE{st:St}:DC E n (.draws ds) st=(jc E (be E) n ds [] st).map fun r=>(.nrm,r):=L8
theorem vn{o:iz}{fp:FP}{st:St}(h:js E call n o st≠none→jS E call o st=some fp):
  jc E call n ((u,o)::ds) jR st=if meets u jR fp=true then ke E call n ds (jR++ [fp]) (iB E call n [o] st)else none:=by
 simp only[jc]
 unfold meets ke
 cases r:js E call n o st with
 |none=>
  have D:iB E call n [o] st=none:=by simp only[iB,r]
  rw[D]
  cases jS E call o st with
  |none=>simp
  |some F=>simp
 |some s=>
  have D:iB E call n [o] st=some s:=by simp only[iB,r]
  rw[D,h (by rw[r];simp)]
  rfl
theorem yQ{op:nO}{st:St}{q:Q EF}(De:jL st.rho op=none)(I:jK (d.getD 0) st.rho op=q)(F:js E call n ⟨d,op,none⟩ st≠none):
  ∃v D,q.run st.get st.sh.length=some (.val v D)∧((q.asks st.get st.sh.length||nl st D)=true→jS E call ⟨d,op,none⟩ st=some ⟨q.asks st.get st.sh.length,q.log st.get st.sh.length,kR D⟩):=by
 subst I
 unfold js at F
 simp only[De]at F
 cases H:(jK (d.getD 0) st.rho op).run st.get st.sh.length with
 |none=>simp only[H]at F;exact absurd rfl F
 |some r=>
  obtain⟨v,D⟩:=r
  refine⟨v,D,rfl,fun J=> ?_⟩
  unfold jS
  simp only[De,H]
  rw[if_pos J]
theorem alk{op:nO}(H:ny op=true):jc E call n ((u,⟨d,op,none⟩)::ds) jR ⟨fr,lh,sh⟩=ke E call n ds (jR++ [oe]) (iB E call n [⟨d,op,none⟩] ⟨fr,lh,sh⟩):=by
 rw[vn (fp:=oe),wO,if_pos rfl]
 intro D
 obtain⟨I,De⟩:=YQ (d:=d.getD 0) (ρ:=(St.mk fr lh sh).rho) H
 unfold js at D
 unfold jS
 simp only[De]at D ⊢
 cases F:(jK (d.getD 0) (St.mk fr lh sh).rho op).run (St.mk fr lh sh).get sh.length with
 |none=>simp only[F]at D;exact absurd rfl D
 |some r=>
  obtain⟨v,J⟩:=r
  obtain⟨rfl,K,N⟩:=Q.plain_run _ I F
  simp only[K,N,nl,List.all_nil,Bool.or_true,if_true,kR,List.map_nil]
  rfl
def tb:T→List (Sp×Nat)
 | .ptr sp k _ _=> [(sp,k)]
 |_=> []
theorem YR{cs:List T}:tb (.vp cs)= []:=rfl
theorem TF{sp:Sp}{k g off:Nat}:tb (.ptr sp k g off)= [(sp,k)]:=rfl
theorem Q.log_bind{α β:Type}{h:Sp→Nat→iy}{nx:Nat}{f:α→Q β}(r: ∀a,(f a).log h nx= []): ∀q:Q α,(q.bind f).log h nx=q.log h nx
 | .ret a=>r a
 | .fail=>rfl
 | .rd sp k g=>by show(sp,k)::((g (h sp k)).bind f).log h nx=(sp,k)::(g (h sp k)).log h nx;rw[Q.log_bind r (g (h sp k))]
 | .new g=>Q.log_bind r (g nx)
theorem aBL{x:iS}{m:Nat}{ag:Bool}:jc E call n ((u,⟨d,.ld x m ag,none⟩)::ds) jR ⟨fr,lh,sh⟩=
  if meets u jR ⟨false,tb (rd fr x),[]⟩=true then ke E call n ds (jR++ [⟨false,tb (rd fr x),[]⟩]) (iB E call n [⟨d,.ld x m ag,none⟩] ⟨fr,lh,sh⟩)else none:=by
 refine vn ?_
 intro D
 obtain⟨I,De⟩:=Jb (d:=d.getD 0) (ρ:=(St.mk fr lh sh).rho) (op:= .ld x m ag) rfl
 unfold js at D
 unfold jS
 simp only[De]at D ⊢
 cases H:(jK (d.getD 0) (St.mk fr lh sh).rho (.ld x m ag)).run (St.mk fr lh sh).get sh.length with
 |none=>simp only[H]at D;exact absurd rfl D
 |some r=>
  obtain⟨v,J⟩:=r
  obtain⟨rfl,K⟩:=Q.calm_run _ I H
  have N:(jK (d.getD 0) (St.mk fr lh sh).rho (.ld x m ag)).log (St.mk fr lh sh).get sh.length=tb (rd fr x):=by
   rw[lU]
   simp only[jK]
   rw[Q.log_bind (fun a=>rfl)]
   unfold II tb
   cases U:rd fr x <;> try rfl
   ·simp only[];generalize Ev.part _ _ _ _=o;cases o <;> rfl
   ·rename_i sp k g off
    simp only[Q.log]
    congr 1
    generalize (St.mk fr lh sh).get sp k=e
    obtain⟨O,ob⟩:=e
    by_cases F:O=g
    ·cases ob with
     |cells cs wm bx=>simp only[F,if_true];generalize Ev.part _ _ _ _=o;cases o <;> rfl
     |_=>simp only[F,if_true];rfl
    ·simp only[F,if_false];rfl
  simp only[K,N,nl,List.all_nil,Bool.or_true,if_true,kR,List.map_nil]
theorem HK{keep:Bool}{m:Nat}{h:Sp→Nat→iy}{nx:Nat}: ∀(ts:List T),ts.all froz=true→(jm (fz keep (m+2)) ts).log h nx= []
 | [],_=>rfl
 |t::ts,r=>by
  simp only[List.all_cons,Bool.and_eq_true]at r
  simp only[jm,qt r.1,Q.bind]
  rw[Q.log_bind (fun a=>rfl),HK ts r.2]
theorem ajx{f:Nat}{af:iC}{as:List iS}(H:E.fn f=some af)(I:af.eff=false)(J:af.own=none)(F:(as.map (rd fr)).all froz=true):
  jc E call n ((u,⟨d,.callf f as,none⟩)::ds) jR ⟨fr,lh,sh⟩=ke E call n ds (jR++ [oe]) (iB E call n [⟨d,.callf f as,none⟩] ⟨fr,lh,sh⟩):=by
 rw[vn (fp:=oe),wO,if_pos rfl]
 intro D
 unfold js at D
 unfold jS
 have De:jL (St.mk fr lh sh).rho (.callf f as)=some (some (f,as.map (rd fr))):=by rw[lU];rfl
 simp only[De]at D ⊢
 rw[Lx H I J F]at D
 unfold mz
 have K:(jm (fz af.eff iT) (as.map (rd fr))).run (St.mk fr lh sh).get sh.length=some (as.map (rd fr),[]):=by
  have:=Ao (lh:=lh) (sh:=sh) (keep:=af.eff) F
  unfold Dn at this
  rw[rY];exact this
 simp only[H]
 rw[K]
 simp only[nl,List.all_nil,Bool.not_true,Bool.false_eq_true,if_false,I,J]
 cases N:call f (as.map (rd fr)) []with
 |none=>rw[N]at D;exact absurd rfl D
 |some r=>
  simp only[kR,List.map_nil,ite_self]
  have:(jm (fz false iT) (as.map (rd fr))).log (St.mk fr lh sh).get sh.length= []:=HK _ F
  rw[this];rfl
theorem auX{z:List T}{len:Nat}{r:List (Nat×iS)}(I:(r.map fun p=>rd fr p.2).all froz=true):
  jc E call n ((u,⟨d,.bsl z len r,none⟩)::ds) jR ⟨fr,lh,sh⟩=ke E call n ds (jR++ [oe]) (iB E call n [⟨d,.bsl z len r,none⟩] ⟨fr,lh,sh⟩):=by
 rw[vn (fp:=oe),wO,if_pos rfl]
 intro J
 have K:jm (fz false iT) (r.map fun p=>rd fr p.2)= .ret (r.map (fun p=>rd fr p.2),[]):=by
  have: ∀(ts:List T),ts.all froz=true→jm (fz false iT) ts= .ret (ts,[]):=by
   intro ts
   induction ts with
   |nil=>intro _;rfl
   |cons t ts ih=>
    intro F
    simp only[List.all_cons,Bool.and_eq_true]at F
    rw[jm,ih F.2]
    unfold iT
    rw[qt F.1];rfl
  exact this _ I
 obtain⟨v,N,D,H⟩:=yQ (q:=if((r.map fun p=>rd fr p.2).all fun v=>decide ((cellsOf v).length=z.length)&&noTup v)=true then(match qZ (repl z len) ((r.map fun p=>p.1*z.length).zip ((r.map fun p=>rd fr p.2).map cellsOf))with|some cs=>Q.ret (.val (.sl cs len true) [])|none=> .fail)else .fail) (by rfl) (by rw[lU];simp only[jK];rw[K];rfl) J
 split at D
 ·split at D
  ·simp[Q.run]at D
   obtain⟨rfl,rfl⟩:=D
   rename_i O _ _ U
   rw[if_pos O,U]at H
   exact H rfl
  ·simp[Q.run]at D
 ·simp[Q.run]at D
theorem aer{r:Nat}{z:List T}:jc E call n ((u,⟨some r,.alloc z false,none⟩)::ds) jR ⟨fr,lh,sh⟩=
  if meets u jR ⟨false,[(.L,r)],[(.L,r)]⟩=true then ke E call n ds (jR++ [⟨false,[(.L,r)],[(.L,r)]⟩]) (iB E call n [⟨some r,.alloc z false,none⟩] ⟨fr,lh,sh⟩)else none:=
 vn fun _=>rfl
theorem alm{r:Nat}{z:List T}{bytes:Nat}{x:iS}:jc E call n ((u,⟨some r,.mksl z bytes x false,none⟩)::ds) jR ⟨fr,lh,sh⟩=
  if meets u jR ⟨false,[(.L,r)],[(.L,r)]⟩=true then ke E call n ds (jR++ [⟨false,[(.L,r)],[(.L,r)]⟩]) (iB E call n [⟨some r,.mksl z bytes x false,none⟩] ⟨fr,lh,sh⟩)else none:=by
 refine vn fun I=> ?_
 cases J:asNat (rd fr x)with
 |none=>
  obtain⟨v,F,D,H⟩:=yQ (q:= .fail) (by rfl) (by rw[lU];simp only[jK,J]) I
  simp[Q.run]at D
 |some k=>
  obtain⟨v,F,D,H⟩:=yQ (q:=if k*bytes≤roomy&&k≤roomy then pn r false (.cells (repl z k) 0 (Xt z)) (fun sp k' g=> .isl sp k' g 0 k z.length)else .fail) (by rfl) (by rw[lU];simp only[jK,J];rfl) I
  split at D
  ·rename_i K
   rw[if_pos K]at H
   simp[pn,Q.run]at D
   obtain⟨rfl,rfl⟩:=D
   exact H rfl
  ·simp[Q.run]at D
def aes:T→Bool
 | .ptr .L .. =>true
 |_=>false
theorem YS{k g off:Nat}:aes (.ptr .L k g off)=true:=nr rfl
theorem aBM{x v:iS}{m:Nat}(F:aes (rd fr x)=true)(N:froz (rd fr v)=true):jc E call n ((u,⟨none,.st x v m,none⟩)::ds) jR ⟨fr,lh,sh⟩=
  if meets u jR ⟨false,tb (rd fr x),tb (rd fr x)⟩=true then ke E call n ds (jR++ [⟨false,tb (rd fr x),tb (rd fr x)⟩]) (iB E call n [⟨none,.st x v m,none⟩] ⟨fr,lh,sh⟩)else none:=by
 refine vn fun J=> ?_
 cases Mk:rd fr x with
 |ptr sp k g off=>
  cases sp with
  |S=>rw[Mk]at F;simp[aes]at F
  |L=>
   by_cases K:(decide ((cellsOf (rd fr v)).length≠m)|| !noTup (rd fr v))=true
   ·obtain⟨w,I,r,D⟩:=yQ (q:= .fail) (by rfl) (by rw[lU];simp only[jK,uR,Mk];rw[if_pos K]) J
    simp[Q.run]at r
   ·obtain⟨w,I,r,D⟩:=yQ (q:= .rd .L k (adw k g off m (rd fr v))) (by rfl) (by rw[lU];simp only[jK,uR,Mk];rw[if_neg K];rfl) J
    simp only[Q.run,Q.log,Q.asks,QO]at r D
    generalize a6 lh k=e at r D
    obtain⟨O,ob⟩:=e
    unfold adw at r D
    by_cases H:O=g
    ·cases ob with
     |none=>simp[H,Q.run]at r
     |map ks W z=>simp[H,Q.run]at r
     |cells cs wm bx=>
      simp only[H,if_true]at r D
      split at r
      ·rename_i U
       rw[if_pos U]at D
       cases bx with
       |true=>
        simp[Q.run]at r
        obtain⟨rfl,rfl⟩:=r
        exact D rfl
       |false=>
        unfold iT at r D
        simp only[Bool.false_and,Bool.false_eq_true,if_false]at r D
        rw[qt N]at r D
        simp only[Q.bind]at r D
        split at r
        ·simp[Q.run]at r
        ·rename_i V
         rw[if_neg V]at D
         simp[Q.run]at r
         obtain⟨rfl,rfl⟩:=r
         exact D rfl
      ·simp[Q.run]at r
    ·simp only[H,if_false,Q.run]at r
     cases r
 |_=>rw[Mk]at F;simp[aes]at F
theorem aet{op:nO}{j:Nat}{w:Bool}(h:an fr j= .b w):jc E call n ((u,⟨d,op,some (j,w)⟩)::ds) jR ⟨fr,lh,sh⟩=jc E call n ((u,⟨d,op,none⟩)::ds) jR ⟨fr,lh,sh⟩:=by
 simp only[jc,jS,js,h,if_true]
theorem YT{op:nO}{j:Nat}(h:an fr j= .b true):jc E call n ((u,⟨d,op,some (j,true)⟩)::ds) jR ⟨fr,lh,sh⟩=jc E call n ((u,⟨d,op,none⟩)::ds) jR ⟨fr,lh,sh⟩:=aet h
theorem aeu{op:nO}{j:Nat}{w:Bool}(r:Gz n d)(h:an fr j= .b (!w)∨an fr j=jg):jc E call n ((u,⟨d,op,some (j,w)⟩)::ds) jR ⟨fr,lh,sh⟩=jc E call n ds (jR++ [oe]) ⟨xZ fr d jg,lh,sh⟩:=by
 have D:jS E call ⟨d,op,some (j,w)⟩ ⟨fr,lh,sh⟩=some oe:=by
  unfold jS
  rcases h with h|h
  ·simp only[h];rw[if_neg (by cases w <;> simp)]
  ·simp only[h,jg]
 rw[vn (fp:=oe) (fun _=>D),wO,if_pos rfl]
 rcases h with h|h
 ·rw[OQ r h];rfl
 ·rw[QS r h];rfl
theorem YU{r:Nat}{op:nO}{j:Nat}(D:r<n)(h:an fr j= .b false):jc E call n ((u,⟨some r,op,some (j,true)⟩)::ds) jR ⟨fr,lh,sh⟩=jc E call n ds (jR++ [oe]) ⟨kJ fr r jg,lh,sh⟩:=aeu (d:=some r) D (Or.inl h)
end
end Go.Ev
namespace Go.Ev
open Go
def fzW(m:Nat)(lh:iL iy)(sh:List iy)(keep:Bool)(v:T):Option (T×List Up):=(fz keep (m+1) v).run (St.mk .nil lh sh).get sh.length
def GQ(m:Nat)(lh:iL iy)(sh:List iy)(keep:Bool)(r:List T):Option (List T×List Up):=(jm (fz keep (m+1)) r).run (St.mk .nil lh sh).get sh.length
section
variable{m:Nat}{lh:iL iy}{sh:List iy}{keep:Bool}
theorem BX{v:T}(h:froz1 v=true):fzW m lh sh keep v=some (v,[]):=by unfold fzW;rw[qD h];rfl
theorem Jg{k g off len sz:Nat}:fzW m lh sh keep (.isl .L k g off len sz)=Tl m lh sh k (a6 lh k) g off len sz:=by
 cases keep <;> exact auv (a6 lh k)
theorem aln{k g:Nat}:fzW m lh sh keep (.mp .L k g)=mpV k (a6 lh k) g:=by
 cases keep <;> exact mpQ (a6 lh k)
theorem YV:GQ m lh sh keep []=some ([],[]):=rfl
theorem TG{v:T}{r:List T}:GQ m lh sh keep (v::r)=(fzW m lh sh keep v).bind fun p=>(GQ m lh sh keep r).bind fun q=>some (p.1::q.1,p.2++q.2):=by
 unfold GQ fzW
 rw[jm,jq]
 congr 1
 funext p
 rw[jq]
 rfl
theorem YW{cs:List T}:fzV lh sh keep (.agg cs)=(GQ 6 lh sh keep cs).map fun q=>(.agg q.1,q.2):=adu
theorem YX{cs:List T}:fzV lh sh keep (.tup cs)=(GQ 6 lh sh keep cs).map fun q=>(.tup q.1,q.2):=adv
theorem YY{cs:List T}:fzW (m+1) lh sh keep (.agg cs)=(GQ m lh sh keep cs).map fun q=>(.agg q.1,q.2):=by
 unfold fzW GQ
 rw[I7,jq]
 cases (jm (fz keep (m+1)) cs).run (St.mk .nil lh sh).get sh.length <;> rfl
theorem YZ{r:Bool}{v:T}:Ts lh sh r [v]=(fzV lh sh r v).map fun p=>(p.1,((St.mk .nil lh sh).ups p.2).sh):=rfl
theorem TH{r:Bool}{v u:T}{D:List T}:Ts lh sh r (v::u::D)=(fzV lh sh r (.tup (v::u::D))).map fun p=>(p.1,((St.mk .nil lh sh).ups p.2).sh):=rfl
end
theorem auY{x y:List Nat}:xW (.one .str) (.s x) (.s y)=some (decide (x=y)):=by
 simp only[xW,my,Bool.beq_eq_decide_eq]
theorem auZ{k:IntKind}{x y:Int}:xW (.one .int) (.i k x) (.i k y)=some (decide (x=y)):=by
 simp_all[xW,my,Bool.beq_eq_decide_eq]
theorem alo{k:IntKind}{x y:Int}{s t:List Nat}:xW (.flat [.int,.str]) (.agg [.i k x,.s s]) (.agg [.i k y,.s t])=some (decide (x=y∧s=t)):=by
 simp only[xW,j4,my,if_true,Bool.beq_eq_decide_eq]
 grind
theorem CR{x:List Nat}:isKey (.one .str) (.s x)=true:=nr rfl
theorem aiC{k:IntKind}{x:Int}:isKey (.one .int) (.i k x)=true:=nr rfl
theorem Y0{k:IntKind}{x:Int}{s:List Nat}:isKey (.flat [.int,.str]) (.agg [.i k x,.s s])=true:=nr rfl
def au0(r:Option Bool)(D:Option (Option Nat)):Option (Option Nat):=
 match r with
 |some true=>some (some 0)
 |some false=>D.map fun r=>r.map (· +1)
 |none=>none
theorem TI{kk:EK}{k x:T}{xs:List T}:oz kk k (x::xs)=au0 (xW kk k x) (oz kk k xs):=rfl
def lkF(F:List T)(z:T)(D:Bool)(r:Option (Option Nat)):Option T:=
 match r with
 |some (some i)=>F[i]?.map fun v=>if D=true then .tup [v,.b true]else v
 |some none=>some (if D=true then .tup [z,.b false]else z)
 |none=>none
theorem QZ{kk:EK}{ks r:List T}{k z:T}{D:Bool}(h:isKey kk k=true):oU kk ks r k z D=lkF r z D (oz kk k ks):=by
 grind [oU,lkF]
theorem Ml{r:List T}{z:T}{D:Bool}{i:Nat}:lkF r z D (some (some i))=r[i]?.map fun v=>if D=true then .tup [v,.b true]else v:=rfl
def alp(ks D:List T)(k v:T)(r:Option (Option Nat)):Option (List T×List T):=
 match r with
 |some (some i)=>some (ks.set i k,D.set i v)
 |some none=>some (ks++ [k],D++ [v])
 |none=>none
theorem aev{kk:EK}{ks r:List T}{k v:T}:rL kk k v ks r=alp ks r k v (oz kk k ks):=by
 grind [rL,alp]
theorem TJ{ks r:List T}{k v:T}:alp ks r k v (some none)=some (ks++ [k],r++ [v]):=rfl
theorem jZ{g r:Nat}{ks D:List T}{z:Bool}{F:EK}{k u:T}{H:Bool}:lkE ⟨r,.map ks D z⟩ g F k u H=if r=g then oU F ks D k u H else none:=rfl
theorem vq{lh:iL iy}{kk g D:Nat}{ks F:List T}{r:EK}{k v:T}:muE lh kk ⟨D,.map ks F false⟩ g r k v=if D=g∧isKey r k=true then(rL r k v ks F).map fun q=>oK lh kk ⟨g,.map q.1 q.2 false⟩else none:=rfl
end Go.Ev
namespace Go.Ev
open Go
section
variable{E:Env}{call:qT}{n:Nat}{fr:Fr}{lh:iL iy}{sh:List iy}{os:List iz}{d:Nat}
theorem Y1{z:List T}(r:d<n):iB E call n (⟨some d,.alloc z true,none⟩::os) ⟨fr,lh,sh⟩=iB E call n os ⟨kJ fr d (.ptr .S sh.length 1 0),lh,iR sh sh.length ⟨1,.cells z 0 true⟩⟩:=by
 rw[qC (by rfl) (show Gz n (some d)from r)];rfl
theorem Y2(r:d<n):iB E call n (⟨some d,.mkmap true,none⟩::os) ⟨fr,lh,sh⟩=iB E call n os ⟨kJ fr d (.mp .S sh.length 1),lh,iR sh sh.length ⟨1,.map [] [] false⟩⟩:=by
 rw[qC (by rfl) (show Gz n (some d)from r)];rfl
theorem TK{e:iy}{l:List iy}:iM (e::l) 0=e:=rfl
theorem tV{e:iy}{l:List iy}{k:Nat}:iM (e::l) (k+1)=iM l k:=rfl
theorem Y3{v:iy}:iR [] 0 v= [v]:=rfl
theorem TL{e v:iy}{l:List iy}:iR (e::l) 0 v=v::l:=rfl
theorem tW{e v:iy}{l:List iy}{k:Nat}:iR (e::l) (k+1) v=e::iR l k v:=rfl
def Fs(lh:iL iy)(sh:List iy)(k:Nat)(e:iy)(g off:Nat)(v:T)(m:Nat):Option (iL iy×List iy):=
 match e with
 |⟨r,.cells cs wm bx⟩=>if r=g∧(cellsOf v).length=m∧noTup v=true∧wm≤off∧off+m≤cs.length then some (lh,iR sh k ⟨g,.cells (splice cs off (cellsOf v)) wm bx⟩)else none
 |_=>none
def TM(k g off m:Nat)(v:T)(e:iy):Q EF:=if e.g=g then match e.ob with
     | .cells cs wm bx=>if wm≤off&&off+m≤cs.length then
         (if bx&&Sp.S== .L then .ret (.val jg [(Sp.S,k,⟨g,.cells (splice cs off (cellsOf v)) wm bx⟩)])
         else(fz (bx&&Sp.S== .S) iT v).bind fun p=>if pW p.2 .S k|| !noTup p.1||(cellsOf p.1).length≠m then .fail else .ret (.val jg (p.2++ [(Sp.S,k,⟨g,.cells (splice cs off (cellsOf p.1)) wm bx⟩)])))
       else .fail
     |_=> .fail
    else .fail
theorem aew{k g off m:Nat}{v:T}(e:iy)(H:(cellsOf v).length=m)(I:noTup v=true)(J:froz v=true):oL lh sh (Q.run (St.mk .nil lh sh).get sh.length (TM k g off m v e))=Fs lh sh k e g off v m:=by
 obtain⟨K,ob⟩:=e
 unfold Fs TM
 by_cases N:K=g
 ·subst N
  cases ob with
  |none=>simp[Q.run,oL]
  |map ks U z=>simp[Q.run,oL]
  |cells cs wm bx=>
   by_cases r:wm≤off∧off+m≤cs.length
   ·have D:(decide (wm≤off)&&decide (off+m≤cs.length))=true:=by simp[r.1,r.2]
    have F:(bx&&Sp.S==Sp.L)=false:=by cases bx <;> rfl
    unfold iT
    simp only[if_true,D,F,Bool.false_eq_true,if_false]
    rw[qt J]
    have O:(pW [] Sp.S k|| !noTup v||decide ((cellsOf v).length≠m))=false:=by simp[pW,H,I]
    simp only[Q.bind,O,Bool.false_eq_true,if_false,Q.run,oL]
    rw[if_pos ⟨trivial,H,I,r⟩]
    rfl
   grind [Bool.false_eq_true,Q.run,oL]
 grind [Q.run,oL]
theorem au1{k g off m:Nat}{v:T}(F:froz v=true):stV lh sh (.ptr .S k g off) v m=Fs lh sh k (iM sh k) g off v m:=by
 by_cases r:(cellsOf v).length=m
 ·cases D:noTup v with
  |false=>
   unfold stV uR
   have:(decide ((cellsOf v).length≠m)|| !noTup v)=true:=by simp[D]
   simp only[this,if_true,Q.run]
   unfold Fs
   grind
  |true=>
   unfold stV uR
   have:(decide ((cellsOf v).length≠m)|| !noTup v)=false:=by simp[r,D]
   simp only[this,Bool.false_eq_true,if_false]
   exact aew (iM sh k) r D F
 ·unfold stV uR
  have:(decide ((cellsOf v).length≠m)|| !noTup v)=true:=by simp[r]
  simp only[this,if_true,Q.run]
  unfold Fs
  grind
theorem vt{k g r off m wm:Nat}{cs:List T}{bx:Bool}{v:T}:Fs lh sh k ⟨r,.cells cs wm bx⟩ g off v m=if r=g∧(cellsOf v).length=m∧noTup v=true∧wm≤off∧off+m≤cs.length then some (lh,iR sh k ⟨g,.cells (splice cs off (cellsOf v)) wm bx⟩)else none:=rfl
end
section
variable{E:Env}{call:qT}{n:Nat}{fr:Fr}{lh:iL iy}{sh:List iy}{ds:List (List Nat×iz)}{jR:List FP}{u:List Nat}{d:Option Nat}
def tX:T→List (Sp×Nat)
 | .mp sp k _=> [(sp,k)]
 |_=> []
theorem Y4{sp:Sp}{k g:Nat}:tX (.mp sp k g)= [(sp,k)]:=rfl
theorem aex{h:Sp→Nat→iy}{nx:Nat}{o:Option T}:(val o).log h nx= []:=by cases o <;> rfl
theorem aBO{r:EK}{m k:iS}{z:T}{D:Bool}:jc E call n ((u,⟨d,.lk r m k z D,none⟩)::ds) jR ⟨fr,lh,sh⟩=
  if meets u jR ⟨false,tX (rd fr m),[]⟩=true then ke E call n ds (jR++ [⟨false,tX (rd fr m),[]⟩]) (iB E call n [⟨d,.lk r m k z D,none⟩] ⟨fr,lh,sh⟩)else none:=by
 refine vn fun H=> ?_
 obtain⟨I,De⟩:=Jb (d:=d.getD 0) (ρ:=(St.mk fr lh sh).rho) (op:= .lk r m k z D) rfl
 obtain⟨v,J,K,N⟩:=yQ De rfl H
 obtain⟨rfl,F⟩:=Q.calm_run _ I K
 have O:(jK (d.getD 0) (St.mk fr lh sh).rho (.lk r m k z D)).log (St.mk fr lh sh).get sh.length=tX (rd fr m):=by
  rw[lU]
  grind [tX,jK,Q.log,aex]
 have:=N (by rw[F];simp[nl])
 rw[this,F,O];rfl
def aey:T→Bool
 | .mp .L .. =>true
 |_=>false
theorem aez{k g:Nat}:aey (.mp .L k g)=true:=nr rfl
theorem aBP{F:EK}{m k v:iS}(V:aey (rd fr m)=true)(H:froz (rd fr v)=true):jc E call n ((u,⟨none,.mu F m k v,none⟩)::ds) jR ⟨fr,lh,sh⟩=
  if meets u jR ⟨false,tX (rd fr m),tX (rd fr m)⟩=true then ke E call n ds (jR++ [⟨false,tX (rd fr m),tX (rd fr m)⟩]) (iB E call n [⟨none,.mu F m k v,none⟩] ⟨fr,lh,sh⟩)else none:=by
 refine vn fun I=> ?_
 cases Mk:rd fr m with
 |mp sp kk g=>
  cases sp with
  |S=>grind [aey]
  |L=>
   obtain⟨w,J,r,D⟩:=yQ (q:= .rd .L kk (adB kk g F (rd fr k) (rd fr v))) (by rfl) (by rw[lU];simp only[jK,Mk];rfl) I
   simp only[Q.run,Q.log,Q.asks,QO]at r D
   generalize a6 lh kk=e at r D
   obtain⟨K,ob⟩:=e
   unfold adB at r D
   by_cases N:(decide (K=g)&&isKey F (rd fr k))=true
   ·simp only[N,if_true]at r D
    cases ob with
    |none=>simp[Q.run]at r
    |cells cs wm bx=>simp[Q.run]at r
    |map ks W O=>
     cases O with
     |true=>simp[Q.run]at r
     |false=>
      simp only[]at r D
      unfold iT at r D
      rw[qt H]at r D
      simp only[Q.bind]at r D
      split at r
      ·rename_i q U
       simp only[pW,List.any_nil,Bool.false_eq_true,if_false,Q.run,Option.some.injEq,EF.val.injEq]at r
       obtain⟨rfl,rfl⟩:=r
       rw[U]at D
       simp only[pW,List.any_nil,Bool.false_eq_true,if_false]at D
       exact D rfl
      ·simp[Q.run]at r
   grind [Bool.false_eq_true,Q.run]
 |_=>grind [aey]
end
section
variable{E:Env}{call:qT}{n:Nat}{fr:Fr}{lh:iL iy}{sh:List iy}{ds:List (List Nat×iz)}{jR:List FP}{d:Option Nat}
theorem aeA{D:Bool}{F sz bytes:Nat}{s x:T}{v:T}{r:List Up}{st:St}(hs:notS s=true)(h:(pN F sz bytes s x false D).run st.get st.sh.length=some (.val v r)):nl st r=true:=by
 unfold pN at h
 rw[jq]at h
 cases H:(j5 sz x).run st.get st.sh.length with
 |none=>grind
 |some p=>
  rw[H]at h
  simp only[Option.bind_some]at h
  split at h
  ·split at h
   ·simp[Q.run]at h;rw[h.2];rfl
   ·simp[Q.run]at h;rw[h.2];rfl
   ·simp[Q.run]at h;rw[h.2];rfl
   ·simp[Q.run]at h
  ·split at h
   ·split at h
    ·simp[pn,Q.run]at h;rw[←h.2];rfl
    ·simp[Q.run]at h
   ·split at h
    ·simp[pn,Q.run]at h;rw[←h.2];rfl
    ·simp[Q.run]at h
   ·rename_i sp k g off len I
    cases sp with
    |S=>simp[notS]at hs
    |L=>
     split at h
     ·simp only[Q.run]at h
      split at h
      ·split at h
       ·split at h
        ·simp[Q.run]at h;rw[←h.2];rfl
        ·simp[Q.run]at h
       ·simp[Q.run]at h
      ·simp[Q.run]at h
     ·simp[Q.run]at h
   ·simp[Q.run]at h
def SS:List (List Nat×iz)→Bool
 | []=>true
 |(u,_)::ds=>u.isEmpty&&SS ds
theorem aeB:SS []=true:=nr rfl
theorem Y5{o:iz}{ds:List (List Nat×iz)}:SS (([],o)::ds)=SS ds:=nr rfl
theorem Ft: ∀(ds:List (List Nat×iz)) (jR r:List FP) (st:St),SS ds=true→jc E call n ds jR st=jc E call n ds r st
 | [],_,_,_,_=>rfl
 |(u,o)::ds,jR,r,st,h=>by
  simp only[SS,Bool.and_eq_true,List.isEmpty_iff]at h
  obtain⟨rfl,h⟩:=h
  simp only[jc,List.all_nil,if_true]
  cases jS E call o st with
  |none=>rfl
  |some fp=>
   simp only[]
   cases js E call n o st with
   |none=>rfl
   |some s=>exact Ft ds _ _ s h
end
end Go.Ev
