/- Walks of functions of the program and of the reference, and their plain laws, part 4. Conditions: the theorems' own. -/
import Derived.Test.YtcpceiclnbmgiaaGreatGS
import Derived.Test.YtcpceiclnbmgiaaGreatM1
import Derived.KernelRfl
set_option maxRecDepth 100000
set_option linter.unusedSimpArgs false
set_option linter.unusedVariables false
set_option maxHeartbeats 16000000
namespace Go.Proofs.YtcpceiclnbmgiaaGreat
open Go Go.Ev
theorem JJ{k:Nat}(h:k≤1000000):wr .i64 ((k:Int)+1)=((k+1:Nat):Int):=aI (Nat.lt_of_le_of_lt h yv)
def kP:Nat:=1000000
theorem iM{k:Nat}(h:k≤100000):k≤kP:=Nat.le_trans h yv
theorem bj{k:Nat}(h:k≤kP):wr .i64 ((k:Int)+1)=((k+1:Nat):Int):=JJ h
def fj:Nat:=1125899906842624
theorem pV{k:Nat}(h:k≤100000):k≤fj:=Nat.le_trans h yv
theorem mf{k:Nat}(h:k≤fj):wr .i64 ((k:Int)+1)=((k+1:Nat):Int):=aI (Nat.lt_of_le_of_lt h yv)
theorem Sz{xs:List Ex}{k:Nat}(hk:k<xs.length):xs.drop k=xs[k]::xs.drop (k+1):=List.drop_eq_getElem_cons hk
theorem vY{op:Int}(h1:1≤op)(h2:op≤22):op=1∨op=2∨op=3∨op=4∨op=5∨op=6∨op=7∨op=8∨op=9∨op=10∨op=11∨op=12∨op=13∨op=14∨op=15∨op=16∨op=17∨op=18∨op=19∨op=20∨op=21∨op=22:=zO
theorem aaW{x:Ex}(r:bW x=0):x.nodes≤200:=by
 unfold bW at r
 by_cases h:big x
 ·rw[if_pos h]at r;cases r
 ·unfold big at h;omega
theorem cD(l:List Int):(ints l).length=l.length:=by simp[ints]
theorem iw(l:List Int)(k:Nat)(hk:k<l.length):(ints l).drop k=T.i .i64 l[k]::(ints l).drop (k+1):=by
 rw[List.drop_eq_getElem_cons (by rw[cD];exact hk)];simp[ints]
theorem Ci{a:T}{ts:List Int}(r:IsSl a ts.length (ints ts)){k:Nat}(hk:k<ts.length)(kk:IntKind):dV a (.i kk (k:Int)) 1=some (.vp (T.i .i64 ts[k]::(ints ts).drop (k+1))):=by
 rw[r.ia (sz:=1) (by rw[cD];omega) hk,Nat.mul_one,iw ts k hk]
theorem SA{ts:List Int}{k:Nat}{t:Int}(hk:k<ts.length):jk (ts.drop k) t=(decide (ts[k]=t)&&jk (ts.drop (k+1)) t):=by
 unfold jk;rw[List.drop_eq_getElem_cons hk,List.all_cons]
theorem azQ(ts:List Int)(t:Int)(a:T)(J:IsSl a ts.length (ints ts))(hlen:ts.length≤kP)(o:Out)(K:o=if jk ts t then .ext 0 else .ret)(fr:Fr)(lh:aB ah)(sh:List ah)
  (h1:aa fr 1= .i .i64 t) (F:aa fr 7=a) (D:aa fr 8= .i .i64 (ts.length:Int)) (H:aa fr 9= .i .i64 0):
  mI 17 mU fr lh sh o∧
  ((jk ts t=false→aa (kR pE 17 mU fr lh sh) 4= .b false)∧iy pE 17 mU fr lh sh=lh∧iF pE 17 mU fr lh sh=sh):=by
 refine bF (P:=fun fr O U=>(jk ts t=false→aa fr 4= .b false)∧O=lh∧U=sh) (cu (fun k st=> ∃(fr:Fr),st=⟨fr,lh,sh⟩∧aa fr 1= .i .i64 t∧aa fr 7=a∧aa fr 8= .i .i64 (ts.length:Int)∧aa fr 9= .i .i64 (k:Int)∧jk ts t=jk (ts.drop k) t) _ ts.length ?_ ?_ 0 _ (Nat.zero_le _) ⟨fr,rfl,h1,F,D,H,rfl⟩)
 ·rintro k _ hk ⟨fr,rfl,h1,F,D,H,r⟩
  have N:(k:Int)<ts.length:=zO
  have V:=bj (k:=k) zO
  rw[SA hk]at r
  by_cases I:ts[k]=t
  ·left
   rw[decide_eq_true I,Bool.true_and]at r
   simp only[qA,seval,mU,h1,F,D,H,N,Ci J hk,V,I]
   refine⟨_,rfl,_,rfl, ?_, ?_, ?_, ?_,r⟩ <;> simp only[qA,seval,h1,F,D]
  ·right
   rw[decide_eq_false I,Bool.false_and]at r
   simp only[qA,seval,mU,h1,F,D,H,N,Ci J hk,I]
   refine⟨_,_,ace,rfl,by rw[K,r];rfl,fun _=>by simp only[qA,seval],rfl,rfl⟩
 ·rintro _ ⟨fr,rfl,h1,F,D,H,r⟩
  rw[List.drop_length]at r
  have r:jk ts t=true:=r
  simp only[qA,seval,mU,D,H,Int.lt_irrefl]
  exact⟨_,_,k9,rfl,by rw[K,r];rfl,fun hc=>(by rw[r]at hc;cases hc),rfl,rfl⟩
theorem Pz(ts:List Int)(t:Int)(a:T)(r:IsSl a ts.length (ints ts))(hlen:ts.length≤kP):ae pE 230 [a,.i .i64 t] []=some (.b (jk ts t),[]):=by
 have D:=fun fr lh sh=>azQ ts t a r hlen _ rfl fr lh sh
 rw[an aii (by simp[Uh])]
 cases h:jk ts t <;> simp only[h]at D <;> simp only[qA,seval,Uh,r.lenI,D]
theorem EN(k:Int):ae pE 229 [.i .i64 k] []=some (.b (decide (k=1∨k=2)),[]):=by
 rw[an Vd (by simp[P4])]
 by_cases h1:k=1
 ·simp only[qA,seval,P4,h1,true_or]
 ·by_cases h2:k=2 <;> simp only[qA,seval,P4,h1,h2,or_true,or_self]
theorem CF(op a b:Int):ae pE 231 [.i .i64 op,.i .i64 a,.i .i64 b] []=some (.i .i64 (Jb op a b),[]):=by
 rw[an Ve (by simp[wE])]
 unfold Jb
 by_cases a1:a=1
 ·subst a1
  by_cases r:b=1
  ·simp only[qA,seval,wE,r]
  ·by_cases D:op=10
   ·by_cases H:b=2 <;> simp only[qA,seval,wE,r,H,D]
   ·by_cases F:op=11 <;> simp only[qA,seval,wE,r,D,F]
 ·by_cases a2:a=2
  ·subst a2
   by_cases r:b=1
   ·simp only[qA,seval,wE,r]
   ·by_cases D:op=10
    ·simp only[qA,seval,wE,r,D]
    ·by_cases F:op=11
     ·by_cases H:b=2 <;> simp only[qA,seval,wE,r,H,F]
     ·simp only[qA,seval,wE,r,D,F]
  ·by_cases D:op=10
   ·simp only[qA,seval,wE,a1,a2,D]
   ·by_cases F:op=11 <;> simp only[qA,seval,wE,a1,a2,D,F]
theorem oJ{a:T}{t:Int}{ts:List Int}(r:IsSl a (t::ts).length (ints (t::ts))): ∃ex,a= .sl (.i .i64 t::ints ts) (ts.length+1) ex:=by
 rcases r with⟨_,h,_⟩|⟨ex,h⟩
 ·simp at h
 ·exact⟨ex,h⟩
theorem MU{ts:List Int}(h:ts.length=1): ∃a,ts= [a]:=by
 match ts,h with
 | [a],_=>grind
theorem oK{ts:List Int}(h:ts.length=2): ∃a b,ts= [a,b]:=by
 match ts,h with
 | [a,b],_=>grind
theorem MV{ts:List Int}(h:ts.length=3): ∃a b c,ts= [a,b,c]:=by
 match ts,h with
 | [a,b,c],_=>grind
theorem oL(t:Int)(ts:List Int)(k:Int):jk (t::ts) k=(decide (t=k)&&jk ts k):=rfl
theorem aaX(t:Int)(ts:List Int):(if jk (t::ts) 1 then(1:Int)else if jk (t::ts) 2 then 2 else 0)=if(t=1∨t=2)∧jk (t::ts) t=true then t else 0:=by
 rw[oL,oL,oL,decide_eq_true (p:=t=t) rfl,Bool.true_and]
 grind
theorem oM(op k:Int)(ts:List Int)(a:T)(r:IsSl a ts.length (ints ts))(hl:ts.length≤kP)(h:op=15∧k=3∨(op=19∨op=20∨op=21∨op=22)∧k=4):ae pE 232 [.i .i64 op,a] []=some (.b (jk ts k),[]):=by
 have h1:=Pz ts k a r hl
 rw[an Nn (by simp[CY])]
 rcases h with⟨rfl,rfl⟩|⟨rfl|rfl|rfl|rfl,rfl⟩ <;> simp only[qA,seval,CY,h1,aij,r.froz]
theorem EO(op x y:Int)(a:T)(D:IsSl a 2 (ints [x,y]))(h:op=16∨op=17):ae pE 232 [.i .i64 op,a] []=some (.b (decide ((x=1∨x=2)∧x=y)),[]):=by
 obtain⟨ex,rfl⟩:=oJ (ts:= [y]) D
 have r:=EN x
 rw[an Nn (by simp[CY])]
 by_cases hx:x=1∨x=2
 ·rw[decide_eq_true hx]at r
  rcases h with rfl|rfl <;> simp only[qA,seval,di,bp,aJ,CY,r,Nm,aih,ints,hx]
 ·rw[decide_eq_false hx]at r
  rcases h with rfl|rfl <;> simp only[qA,seval,di,bp,CY,r,Nm,aih,ints,hx]
theorem aaY(x y:Int)(a:T)(r:IsSl a 2 (ints [x,y])):ae pE 232 [.i .i64 18,a] []=some (.b (decide (x=y)),[]):=by
 obtain⟨ex,rfl⟩:=oJ (ts:= [y]) r
 rw[an Nn (by simp[CY])]
 simp only[qA,seval,di,bp,CY,ints]
theorem MW(op:Int)(ts:List Int)(a:T)(r:IsSl a ts.length (ints ts))(hl:ts.length≤kP)(h1:1≤op)(h2:op≤22)(h6:op≠6)(D:eo op ts.length=true):ae pE 216 [.i .i64 op,a] []=some (.i .i64 (mc op ts),[]):=by
 rw[an ah3 (by simp[nS])]
 have F: ∀t A5,ts=t::A5→(op=7∨op=8∨op=9∨op=12∨op=13)→uV nS.res nS.eff (DC pE nS.n nS.code ⟨lb [.i .i64 op,a],.nil,[]⟩)=some (.i .i64 (if(t=1∨t=2)∧jk ts t=true then t else 0),[]):=by
  rintro t A5 rfl H
  have K:=Pz (t::A5) t a r hl
  have I:=EN t
  obtain⟨ex,rfl⟩:=oJ r
  have N:0<A5.length+1:=Nat.succ_pos _
  by_cases hx:t=1∨t=2
  ·rw[decide_eq_true hx]at I
   cases hk:jk (t::A5) t <;> rw[hk]at K <;> rcases H with rfl|rfl|rfl|rfl|rfl <;>
    simp only[qA,seval,di,nS,I,Nm,K,aij,hx,N]
  ·rw[decide_eq_false hx]at I
   rcases H with rfl|rfl|rfl|rfl|rfl <;> simp only[qA,seval,di,nS,I,Nm,hx,N]
 have Kt: ∀b:Bool,ae pE 232 [.i .i64 op,a] []=some (.b b,[])→(op=15∨op=16∨op=17∨op=18∨op=19∨op=20∨op=21∨op=22)→uV nS.res nS.eff (DC pE nS.n nS.code ⟨lb [.i .i64 op,a],.nil,[]⟩)=some (.i .i64 (if b=true then 4 else 0),[]):=by
  intro b O H
  cases b <;> rcases H with rfl|rfl|rfl|rfl|rfl|rfl|rfl|rfl <;> simp only[qA,seval,nS,O,avV,r.froz]
 rcases vY h1 h2 with rfl|rfl|rfl|rfl|rfl|rfl|rfl|rfl|rfl|rfl|rfl|rfl|rfl|rfl|rfl|rfl|rfl|rfl|rfl|rfl|rfl|rfl
 iterate 5 ·simp only[qA,seval,nS,mc]
 ·grind
 ·obtain⟨x,rfl⟩:=MU (by simpa[eo]using D)
  rw[F x [] rfl xv,←aaX];rfl
 ·obtain⟨x,y,rfl⟩:=oK (by simpa[eo]using D)
  rw[F x [y] rfl xv,←aaX];rfl
 ·obtain⟨x,y,rfl⟩:=oK (by simpa[eo]using D)
  rw[F x [y] rfl xv,←aaX];rfl
 ·obtain⟨x,y,rfl⟩:=oK (by simpa[eo]using D)
  obtain⟨ex,rfl⟩:=oJ r
  have J:=CF 10 x y
  simp only[qA,seval,di,bp,aJ,nS,ints,J,aik,ail];rfl
 ·obtain⟨x,y,rfl⟩:=oK (by simpa[eo]using D)
  obtain⟨ex,rfl⟩:=oJ r
  have J:=CF 11 x y
  simp only[qA,seval,di,bp,aJ,nS,ints,J,aik,ail];rfl
 ·match ts,D with
  |x::ts,_=>rw[F x ts rfl xv,←aaX];rfl
 ·match ts,D with
  |x::ts,_=>rw[F x ts rfl xv,←aaX];rfl
 ·obtain⟨x,y,z,rfl⟩:=MV (by simpa[eo]using D)
  obtain⟨ex,rfl⟩:=oJ r
  have hr:mc 14 [x,y,z]=if x=4∧y=z then y else 0:=rfl
  rw[hr]
  by_cases hx:x=4
  ·by_cases U:y=z <;> simp only[qA,seval,di,bp,aJ,nS,ints,hx,U]
  ·simp only[qA,seval,di,bp,aJ,nS,ints,hx]
 ·exact Kt _ (oM 15 3 ts a r hl xv) xv
 ·obtain⟨x,y,rfl⟩:=oK (by simpa[eo]using D)
  rw[Kt _ (EO 16 x y a r xv) xv]
  have hr:mc 16 [x,y]=if(x=1∨x=2)∧x=y then 4 else 0:=rfl
  rw[hr];simp only[decide_eq_true_eq]
 ·obtain⟨x,y,rfl⟩:=oK (by simpa[eo]using D)
  rw[Kt _ (EO 17 x y a r xv) xv]
  have hr:mc 17 [x,y]=if(x=1∨x=2)∧x=y then 4 else 0:=rfl
  rw[hr];simp only[decide_eq_true_eq]
 ·obtain⟨x,y,rfl⟩:=oK (by simpa[eo]using D)
  rw[Kt _ (aaY x y a r) xv]
  have hr:mc 18 [x,y]=if x=y then 4 else 0:=rfl
  rw[hr];simp only[decide_eq_true_eq]
 ·exact Kt _ (oM 19 4 ts a r hl xv) xv
 ·exact Kt _ (oM 20 4 ts a r hl xv) xv
 ·exact Kt _ (oM 21 4 ts a r hl xv) xv
 ·exact Kt _ (oM 22 4 ts a r hl xv) xv
def dx:Cs→List T→Prop
 | [],cs=>cs= []
 |c::l,cs=> ∃ex r,cs=(T.s c.1::ex)++r∧jI c.2 ex∧dx l r
theorem dx.len: ∀{l:Cs} {cs:List T},dx l cs→cs.length=l.length*5
 | [],cs,h=>by grind [dx]
 |c::l,cs,h=>by
  rw[dx]at h
  obtain⟨ex,r,rfl,h1,h2⟩:=h
  rw[List.length_append,List.length_cons,h1.len,h2.len,List.length_cons];omega
theorem dx.drop: ∀{l:Cs} {cs:List T} (k:Nat) (hk:k<l.length),dx l cs→ ∃ex r,cs.drop (k*5)=(T.s l[k].1::ex)++r∧jI l[k].2 ex∧dx (l.drop (k+1)) r
 | [],cs,k,hk,h=>by simp at hk
 |x::xs,cs,0,hk,h=>by
  grind [dx]
 |x::xs,cs,k+1,hk,h=>by
  rw[dx]at h
  obtain⟨c,r,rfl,h1,h2⟩:=h
  obtain⟨D,F,e,h3,h4⟩:=dx.drop k (by simpa using hk) h2
  refine⟨D,F, ?_,h3,by simpa using h4⟩
  have:(k+1)*5=(T.s x.1::c).length+k*5:=by rw[List.length_cons,h1.len];omega
  grind [List.drop_append,Nat.add_sub_cancel_left,List.drop_eq_nil_of_le]
theorem dx.take: ∀{l:Cs} {cs:List T} (k:Nat),dx l cs→dx (l.take k) (cs.take (k*5))
 |l,cs,0,h=>by simp[dx]
 | [],cs,k+1,h=>by grind [dx]
 |x::xs,cs,k+1,h=>by
  rw[dx]at h
  obtain⟨c,r,rfl,h1,h2⟩:=h
  have:(k+1)*5=(T.s x.1::c).length+k*5:=by rw[List.length_cons,h1.len];omega
  rw[List.take_succ_cons,dx]
  refine⟨c,r.take (k*5), ?_,h1,dx.take k h2⟩
  grind [List.take_append,Nat.add_sub_cancel_left,List.take_of_length_le]
theorem ga{l:Cs}{a:T}{F:List T}(h1:IsSl a l.length F)(h2:dx l F)(k:Nat)(hk:k<l.length):
  ∃b D r,(∀kk,dV a (.i kk (k:Int)) 5=some (.vp (.s l[k].1:: .i .i64 l[k].2.op:: .i .i64 l[k].2.num:: .s l[k].2.name::b::r)))∧IsSl b l[k].2.args.length D∧cG l[k].2.args D∧jI l[k].2 [.i .i64 l[k].2.op,.i .i64 l[k].2.num,.s l[k].2.name,b]:=by
 obtain⟨c,r,e,h3,h4⟩:=dx.drop k hk h2
 obtain⟨b,D,rfl,h5,h6⟩:=h3.cells
 refine⟨b,D,r,fun kk=> ?_,h5,h6,h3⟩
 rw[h1.ia (sz:=5) h2.len hk,e];rfl
theorem PA: ∀{l:Cs} {s:List Nat} {i:Nat},fL l s=some i→i<l.length
 | [],s,i,h=>by simp[fL]at h
 |c::cs,s,i,h=>by
  rw[fL]at h
  split at h
  ·grind
  ·cases r:fL cs s with
   |none=>simp[r]at h
   |some j=>
    simp[r]at h
    have:=PA r
    grind
theorem xy{l:Cs}{s:List Nat}: ∀(k:Nat),k≤l.length→(∀j (h:j<k) (hl:j<l.length),l[j].1≠s)→fL l s=(fL (l.drop k) s).map (· +k)
 |0,_,_=>by simp
 |k+1,hk,h=>by
  have:=xy (l:=l) k zO fun j D hl=>h j zO hl
  have r:k<l.length:=zO
  rw[this,List.drop_eq_getElem_cons r,fL,if_neg (h k zO r)]
  cases fL (l.drop (k+1)) s with
  |none=>rfl
  |some i=>simp;omega
theorem xz(l:Cs)(s:List Nat): ∀n,fL (l.take n) s=match fL l s with|some i=>if i<n then some i else none|none=>none:=by
 induction l with
 |nil=>intro n;simp[fL]
 |cons c l ih=>
  intro n
  cases n with
  |zero=>
   grind [fL]
  |succ n=>
   grind [fL,hi]
def aaZ(l:Cs)(s:List Nat):Int:=match fL l s with|none=> -1|some i=>(i:Int)
theorem Ez{l:Cs}{s:List Nat}{i:Nat}(h:fL l s=some i):aaZ l s=(i:Int):=by unfold aaZ;rw[h]
theorem SC{l:Cs}{s:List Nat}(h:fL l s=none):aaZ l s= -1:=by unfold aaZ;rw[h]
theorem azR(l:Cs)(s:List Nat)(a:T)(J:List T)(H:IsSl a l.length J)(hc:dx l J)(hs:l.length≤kP)(o:Out)(O:o=if fL l s=none then .ext 0 else .ret)(fr:Fr)(lh:aB ah)(sh:List ah)(h0:aa fr 0=a)(h1:aa fr 1= .s s)(h5:aa fr 5= .i .i64 0):
  mI 20 mR fr lh sh o∧
  ((∀i,fL l s=some i→aa (kR pE 20 mR fr lh sh) 4= .i .i64 (i:Int))∧iy pE 20 mR fr lh sh=lh∧iF pE 20 mR fr lh sh=sh):=by
 refine bF (P:=fun fr U V=>(∀i,fL l s=some i→aa fr 4= .i .i64 (i:Int))∧U=lh∧V=sh) (cu (fun k st=> ∃fr:Fr,st=⟨fr,lh,sh⟩∧aa fr 0=a∧aa fr 1= .s s∧aa fr 5= .i .i64 (k:Int)∧k≤l.length∧ ∀j (h:j<k) (hl:j<l.length),l[j].1≠s) _ l.length ?_ ?_ 0 _ (Nat.zero_le _) ⟨fr,rfl,h0,h1,h5,Nat.zero_le _,by simp⟩)
 ·rintro k _ hk ⟨fr,rfl,h0,h1,h5,CW,I⟩
  have K:(k:Int)<l.length:=zO
  have W:=bj (k:=k) zO
  have D:=xy k CW I
  rw[List.drop_eq_getElem_cons hk,fL]at D
  obtain⟨b,X,r,N,_,_,_⟩:=ga H hc k hk
  by_cases F:l[k].1=s
  ·right
   rw[if_pos F]at D
   simp only[Option.map_some,Nat.zero_add]at D
   simp only[qA,seval,mR,h0,h1,h5,H.lenI,K,N,F]
   refine⟨_,_,ace,rfl,by rw[O,D];rfl,fun i hi=> ?_,rfl,rfl⟩
   rw[D]at hi
   cases hi
   simp only[qA,seval]
  ·left
   simp only[qA,seval,mR,h0,h1,h5,H.lenI,K,N,F,W]
   refine⟨_,rfl,_,rfl, ?_, ?_, ?_,by omega, ?_⟩
   all_goals first|(simp only[qA,seval,h0,h1];done)|skip
   grind
 ·rintro _ ⟨fr,rfl,h0,h1,h5,CW,I⟩
  have D:=xy l.length CW I
  rw[List.drop_length,fL]at D
  simp only[qA,seval,mR,h0,h5,H.lenI,Int.lt_irrefl]
  grind
theorem afB(l:Cs)(s:List Nat)(a:T)(F:List T)(H:IsSl a l.length F)(hc:dx l F)(hs:l.length≤kP):ae pE 218 [a,.s s] []=some (.i .i64 (aaZ l s),[]):=by
 have r:=fun fr lh sh=>azR l s a F H hc hs _ rfl fr lh sh
 rw[an ah6 (by simp[P1])]
 cases D:fL l s with
 |none=>
  rw[SC D]
  simp only[D,if_true,reduceCtorEq,false_implies,implies_true,true_and]at r
  simp only[qA,seval,P1,r]
 |some i=>
  rw[Ez D]
  simp only[D,reduceCtorEq,if_false,Option.some.injEq,forall_eq']at r
  simp only[qA,seval,P1,r]
def MX(ts:List Int):Except Int (List Int)→Except Int (List Int)
 | .error e=> .error e
 | .ok us=> .ok (ts++us)
def aoq:Except Int (List Int)→Out
 | .error _=> .ret
 | .ok _=> .ext 0
theorem aa0{cl:List Nat→Int×Int}{scope:Int}{xs:List Ex}{k:Nat}(hk:k<xs.length):lz cl scope (xs.drop k)=if(xs[k].ty cl scope).2≠0 then .error (xs[k].ty cl scope).2 else MX [(xs[k].ty cl scope).1] (lz cl scope (xs.drop (k+1))):=by
 rw[Sz hk,lz]
 split
 ·rfl
 ·cases lz cl scope (xs.drop (k+1)) <;> rfl
theorem SD(a b:List Int)(x:Except Int (List Int)):MX a (MX b x)=MX (a++b) x:=by cases x <;> simp[MX]
theorem vP{cl:List Nat→Int×Int}{scope:Int}: ∀{xs:List Ex} {ts:List Int},lz cl scope xs= .ok ts→ts.length=xs.length
 | [],ts,h=>by grind [lz]
 |x::xs,ts,h=>by
  rw[lz]at h
  split at h
  ·cases h
  ·cases hx:lz cl scope xs with
   |error e=>grind
   |ok us=>rw[hx]at h;cases h;simp[vP hx]
theorem Zn{lh:aB ah}{sh:List ah}{v:T}{k n:Nat}{cs:List T}(h:bt lh v k 1 n cs)(r:n≤kP)(x:T)(ex:Bool):
  appW lh sh k 1 8 v (.sl [x] 1 ex)=some (nxV lh sh k 1 8 v (.sl [x] 1 ex),Q6 lh sh k 1 8 v (.sl [x] 1 ex))∧bt (Q6 lh sh k 1 8 v (.sl [x] 1 ex)) (nxV lh sh k 1 8 v (.sl [x] 1 ex)) k 1 (n+1) (cs++ [x])∧ ∀j,j≠k→ab (Q6 lh sh k 1 8 v (.sl [x] 1 ex)) j=ab lh j:=
 bt.appW h (m:=0) (by rw[FU];rfl) rfl (by unfold roomy;unfold kP at r;omega)
section
variable(l:Cs)(Hy:List (Int×Int))(lT kT eT:T)(cl:List T)(hl:IsSl lT l.length cl)(ee:dx l cl)(hlen:l.length≤kP)(aHJ:Hy.length=l.length)(hk:IsSl kT Hy.length (ints (Hy.map (·.1))))(he:IsSl eT Hy.length (ints (Hy.map (·.2))))
include hl hk he
include ee hlen aHJ
end
end Go.Proofs.YtcpceiclnbmgiaaGreat
