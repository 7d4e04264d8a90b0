/- Walks of functions of the program and of the reference, and their plain laws, part 4. Conditions: the theorems' own. -/
import Derived.Test.YtnkgnjecmfkcfaaGreatGS
import Derived.Test.YtnkgnjecmfkcfaaGreatM1
import Derived.Test.YtnkgnjecmfkcfaaGreatM2
import Derived.Test.YtnkgnjecmfkcfaaGreatM3
import Derived.KernelRfl
set_option maxRecDepth 100000
set_option linter.unusedSimpArgs false
set_option linter.unusedVariables false
set_option maxHeartbeats 16000000
namespace Go.Proofs.YtnkgnjecmfkcfaaGreat
open Go Go.Ev
theorem JD{k:Nat}(h:k≤1000000):wr .i64 ((k:Int)+1)=((k+1:Nat):Int):=aG (Nat.lt_of_le_of_lt h xW)
def jY:Nat:=1000000
theorem gH{k:Nat}(h:k≤100000):k≤jY:=Nat.le_trans h xW
theorem be{k:Nat}(h:k≤jY):wr .i64 ((k:Int)+1)=((k+1:Nat):Int):=JD h
def gm:Nat:=1125899906842624
theorem X9{k:Nat}(h:k≤gm):wr .i64 ((k:Int)+1)=((k+1:Nat):Int):=aG (Nat.lt_of_le_of_lt h xW)
theorem Sl{xs:List Ex}{k:Nat}(hk:k<xs.length):xs.drop k=xs[k]::xs.drop (k+1):=List.drop_eq_getElem_cons hk
theorem wb{op:Int}(h1:1≤op)(h2:op≤22):op=1∨op=2∨op=3∨op=4∨op=5∨op=6∨op=7∨op=8∨op=9∨op=10∨op=11∨op=12∨op=13∨op=14∨op=15∨op=16∨op=17∨op=18∨op=19∨op=20∨op=21∨op=22:=yv
theorem aac{x:Ex}(r:bL x=0):x.nodes≤200:=by
 unfold bL at r
 by_cases h:big x
 ·rw[if_pos h]at r;cases r
 ·unfold big at h;omega
theorem nO{z:Nat}{fr:Fr}{lh:aD ah}{sh:List ah}(x:Ex)(cs:List T)(hx:jA x cs)(D:0≤x.nodes)(hs:x.sm):bu pE (ae pE) z ⟨fr,lh,sh⟩ 215 [.agg cs]=some (.i .i64 (bL x),⟨fr,lh,sh⟩):=by
 obtain⟨s,h⟩:=pvB x hs
 rw[←show cs=jJ x from hx]at h
 obtain⟨a,F,rfl,r,SK⟩:=hx.cells
 rw[auh (by simp[IA,uY,Fp,r.froz1]),h];rfl
theorem rQ(x:Ex)(cs:List T)(hx:jA x cs)(hs:x.sm):ae pE 175 [.agg cs] []=some (.i .i64 (bL x),[]):=by
 rw[show cs=jJ x from hx]
 exact rvB x hs
theorem dX(l:List Int):(ints l).length=l.length:=by simp[ints]
theorem lB(l:List Int)(k:Nat)(hk:k<l.length):(ints l).drop k=T.i .i64 l[k]::(ints l).drop (k+1):=by
 rw[List.drop_eq_getElem_cons (by rw[dX];exact hk)];simp[ints]
theorem BQ{a:T}{ts:List Int}(r:IsSl a ts.length (ints ts)){k:Nat}(hk:k<ts.length)(kk:IntKind):iaV a (.i kk (k:Int)) 1=some (.vp (T.i .i64 ts[k]::(ints ts).drop (k+1))):=by
 rw[r.ia (sz:=1) (by rw[dX];omega) hk,Nat.mul_one,lB ts k hk]
theorem Sn{ts:List Int}{k:Nat}{t:Int}(hk:k<ts.length):iE (ts.drop k) t=(decide (ts[k]=t)&&iE (ts.drop (k+1)) t):=by
 unfold iE;rw[List.drop_eq_getElem_cons hk,List.all_cons]
theorem ax6(ts:List Int)(t:Int)(a:T)(K:IsSl a ts.length (ints ts))(hlen:ts.length≤jY)(o:Out)(N:o=if iE ts t then .ext 0 else .ret)(fr:Fr)(lh:aD ah)(sh:List ah)
  (h1:aa fr 1= .i .i64 t) (F:aa fr 7=a) (D:aa fr 8= .i .i64 (ts.length:Int)) (H:aa fr 9= .i .i64 0):
  pT 17 mg fr lh sh o∧
  ((iE ts t=false→aa (mY pE 17 mg fr lh sh) 4= .b false)∧im pE 17 mg fr lh sh=lh∧iH pE 17 mg fr lh sh=sh):=by
 refine cj (P:=fun fr O U=>(iE ts t=false→aa fr 4= .b false)∧O=lh∧U=sh) (cT (fun k st=> ∃(fr:Fr),st=⟨fr,lh,sh⟩∧aa fr 1= .i .i64 t∧aa fr 7=a∧aa fr 8= .i .i64 (ts.length:Int)∧aa fr 9= .i .i64 (k:Int)∧iE ts t=iE (ts.drop k) t) _ ts.length ?_ ?_ 0 _ (Nat.zero_le _) ⟨fr,rfl,h1,F,D,H,rfl⟩)
 ·rintro k _ hk ⟨fr,rfl,h1,F,D,H,r⟩
  have I:(k:Int)<ts.length:=yv
  have V:=be (k:=k) yv
  rw[Sn hk]at r
  by_cases J:ts[k]=t
  ·left
   rw[decide_eq_true J,Bool.true_and]at r
   simp only[qA,seval,mg,h1,F,D,H,I,BQ K hk,V,J]
   refine⟨_,rfl,_,rfl, ?_, ?_, ?_, ?_,r⟩ <;> simp only[qA,seval,h1,F,D]
  ·right
   rw[decide_eq_false J,Bool.false_and]at r
   simp only[qA,seval,mg,h1,F,D,H,I,BQ K hk,J]
   refine⟨_,_,abe,rfl,by rw[N,r];rfl,fun _=>by simp only[qA,seval],rfl,rfl⟩
 ·rintro _ ⟨fr,rfl,h1,F,D,H,r⟩
  rw[List.drop_length]at r
  have r:iE ts t=true:=r
  simp only[qA,seval,mg,D,H,Int.lt_irrefl]
  exact⟨_,_,sV,rfl,by rw[N,r];rfl,fun hc=>(by rw[r]at hc;cases hc),rfl,rfl⟩
theorem Pp(ts:List Int)(t:Int)(a:T)(r:IsSl a ts.length (ints ts))(hlen:ts.length≤jY):ae pE 309 [a,.i .i64 t] []=some (.b (iE ts t),[]):=by
 have D:=fun fr lh sh=>ax6 ts t a r hlen _ rfl fr lh sh
 rw[au ahK (by simp[Ut])]
 cases h:iE ts t <;> simp only[h]at D <;> simp only[qA,seval,Ut,r.lenI,D]
theorem Ey(k:Int):ae pE 308 [.i .i64 k] []=some (.b (decide (k=1∨k=2)),[]):=by
 rw[au Vh (by simp[Qf])]
 by_cases h1:k=1
 ·simp only[qA,seval,Qf,h1,true_or]
 ·by_cases h2:k=2 <;> simp only[qA,seval,Qf,h1,h2,or_true,or_self]
theorem B4(op a b:Int):ae pE 310 [.i .i64 op,.i .i64 a,.i .i64 b] []=some (.i .i64 (I3 op a b),[]):=by
 rw[au Vi (by simp[wP])]
 unfold I3
 by_cases a1:a=1
 ·subst a1
  by_cases r:b=1
  ·simp only[qA,seval,wP,r]
  ·by_cases D:op=10
   ·by_cases H:b=2 <;> simp only[qA,seval,wP,r,H,D]
   ·by_cases F:op=11 <;> simp only[qA,seval,wP,r,D,F]
 ·by_cases a2:a=2
  ·subst a2
   by_cases r:b=1
   ·simp only[qA,seval,wP,r]
   ·by_cases D:op=10
    ·simp only[qA,seval,wP,r,D]
    ·by_cases F:op=11
     ·by_cases H:b=2 <;> simp only[qA,seval,wP,r,H,F]
     ·simp only[qA,seval,wP,r,D,F]
  ·by_cases D:op=10
   ·simp only[qA,seval,wP,a1,a2,D]
   ·by_cases F:op=11 <;> simp only[qA,seval,wP,a1,a2,D,F]
theorem oc{a:T}{t:Int}{ts:List Int}(r:IsSl a (t::ts).length (ints (t::ts))): ∃ex,a= .sl (.i .i64 t::ints ts) (ts.length+1) ex:=by
 rcases r with⟨_,h,_⟩|⟨ex,h⟩
 ·simp at h
 ·exact⟨ex,h⟩
theorem MM{ts:List Int}(h:ts.length=1): ∃a,ts= [a]:=by
 match ts,h with
 | [a],_=>grind
theorem od{ts:List Int}(h:ts.length=2): ∃a b,ts= [a,b]:=by
 match ts,h with
 | [a,b],_=>grind
theorem MN{ts:List Int}(h:ts.length=3): ∃a b c,ts= [a,b,c]:=by
 match ts,h with
 | [a,b,c],_=>grind
theorem oe(t:Int)(ts:List Int)(k:Int):iE (t::ts) k=(decide (t=k)&&iE ts k):=rfl
theorem aad(t:Int)(ts:List Int):(if iE (t::ts) 1 then(1:Int)else if iE (t::ts) 2 then 2 else 0)=if(t=1∨t=2)∧iE (t::ts) t=true then t else 0:=by
 rw[oe,oe,oe,decide_eq_true (p:=t=t) rfl,Bool.true_and]
 grind
theorem og(op k:Int)(ts:List Int)(a:T)(r:IsSl a ts.length (ints ts))(hl:ts.length≤jY)(h:op=15∧k=3∨(op=19∨op=20∨op=21∨op=22)∧k=4):ae pE 311 [.i .i64 op,a] []=some (.b (iE ts k),[]):=by
 have h1:=Pp ts k a r hl
 rw[au Nl (by simp[Cu])]
 rcases h with⟨rfl,rfl⟩|⟨rfl|rfl|rfl|rfl,rfl⟩ <;> simp only[qA,seval,Cu,h1,ahL,r.froz]
theorem Ez(op x y:Int)(a:T)(D:IsSl a 2 (ints [x,y]))(h:op=16∨op=17):ae pE 311 [.i .i64 op,a] []=some (.b (decide ((x=1∨x=2)∧x=y)),[]):=by
 obtain⟨ex,rfl⟩:=oc (ts:= [y]) D
 have r:=Ey x
 rw[au Nl (by simp[Cu])]
 by_cases hx:x=1∨x=2
 ·rw[decide_eq_true hx]at r
  rcases h with rfl|rfl <;> simp only[qA,seval,cO,bp,aH,Cu,r,Nk,ahJ,ints,hx]
 ·rw[decide_eq_false hx]at r
  rcases h with rfl|rfl <;> simp only[qA,seval,cO,bp,Cu,r,Nk,ahJ,ints,hx]
theorem aae(x y:Int)(a:T)(r:IsSl a 2 (ints [x,y])):ae pE 311 [.i .i64 18,a] []=some (.b (decide (x=y)),[]):=by
 obtain⟨ex,rfl⟩:=oc (ts:= [y]) r
 rw[au Nl (by simp[Cu])]
 simp only[qA,seval,cO,bp,Cu,ints]
theorem MO(op:Int)(ts:List Int)(a:T)(r:IsSl a ts.length (ints ts))(hl:ts.length≤jY)(h1:1≤op)(h2:op≤22)(h6:op≠6)(D:dG op ts.length=true):ae pE 289 [.i .i64 op,a] []=some (.i .i64 (lQ op ts),[]):=by
 rw[au ahF (by simp[np])]
 have F: ∀t Ax,ts=t::Ax→(op=7∨op=8∨op=9∨op=12∨op=13)→uX np.res np.eff (DC pE np.n np.code ⟨kR [.i .i64 op,a],.nil,[]⟩)=some (.i .i64 (if(t=1∨t=2)∧iE ts t=true then t else 0),[]):=by
  rintro t Ax rfl H
  have K:=Pp (t::Ax) t a r hl
  have I:=Ey t
  obtain⟨ex,rfl⟩:=oc r
  have N:0<Ax.length+1:=Nat.succ_pos _
  by_cases hx:t=1∨t=2
  ·rw[decide_eq_true hx]at I
   cases hk:iE (t::Ax) t <;> rw[hk]at K <;> rcases H with rfl|rfl|rfl|rfl|rfl <;>
    simp only[qA,seval,cO,np,I,Nk,K,ahL,hx,N]
  ·rw[decide_eq_false hx]at I
   rcases H with rfl|rfl|rfl|rfl|rfl <;> simp only[qA,seval,cO,np,I,Nk,hx,N]
 have Kl: ∀b:Bool,ae pE 311 [.i .i64 op,a] []=some (.b b,[])→(op=15∨op=16∨op=17∨op=18∨op=19∨op=20∨op=21∨op=22)→uX np.res np.eff (DC pE np.n np.code ⟨kR [.i .i64 op,a],.nil,[]⟩)=some (.i .i64 (if b=true then 4 else 0),[]):=by
  intro b O H
  cases b <;> rcases H with rfl|rfl|rfl|rfl|rfl|rfl|rfl|rfl <;> simp only[qA,seval,np,O,auD,r.froz]
 rcases wb h1 h2 with rfl|rfl|rfl|rfl|rfl|rfl|rfl|rfl|rfl|rfl|rfl|rfl|rfl|rfl|rfl|rfl|rfl|rfl|rfl|rfl|rfl|rfl
 iterate 5 ·simp only[qA,seval,np,lQ]
 ·grind
 ·obtain⟨x,rfl⟩:=MM (by simpa[dG]using D)
  rw[F x [] rfl xv,←aad];rfl
 ·obtain⟨x,y,rfl⟩:=od (by simpa[dG]using D)
  rw[F x [y] rfl xv,←aad];rfl
 ·obtain⟨x,y,rfl⟩:=od (by simpa[dG]using D)
  rw[F x [y] rfl xv,←aad];rfl
 ·obtain⟨x,y,rfl⟩:=od (by simpa[dG]using D)
  obtain⟨ex,rfl⟩:=oc r
  have J:=B4 10 x y
  simp only[qA,seval,cO,bp,aH,np,ints,J,ahM,ahN];rfl
 ·obtain⟨x,y,rfl⟩:=od (by simpa[dG]using D)
  obtain⟨ex,rfl⟩:=oc r
  have J:=B4 11 x y
  simp only[qA,seval,cO,bp,aH,np,ints,J,ahM,ahN];rfl
 ·match ts,D with
  |x::ts,_=>rw[F x ts rfl xv,←aad];rfl
 ·match ts,D with
  |x::ts,_=>rw[F x ts rfl xv,←aad];rfl
 ·obtain⟨x,y,z,rfl⟩:=MN (by simpa[dG]using D)
  obtain⟨ex,rfl⟩:=oc r
  have hr:lQ 14 [x,y,z]=if x=4∧y=z then y else 0:=rfl
  rw[hr]
  by_cases hx:x=4
  ·by_cases U:y=z <;> simp only[qA,seval,cO,bp,aH,np,ints,hx,U]
  ·simp only[qA,seval,cO,bp,aH,np,ints,hx]
 ·exact Kl _ (og 15 3 ts a r hl xv) xv
 ·obtain⟨x,y,rfl⟩:=od (by simpa[dG]using D)
  rw[Kl _ (Ez 16 x y a r xv) xv]
  have hr:lQ 16 [x,y]=if(x=1∨x=2)∧x=y then 4 else 0:=rfl
  rw[hr];simp only[decide_eq_true_eq]
 ·obtain⟨x,y,rfl⟩:=od (by simpa[dG]using D)
  rw[Kl _ (Ez 17 x y a r xv) xv]
  have hr:lQ 17 [x,y]=if(x=1∨x=2)∧x=y then 4 else 0:=rfl
  rw[hr];simp only[decide_eq_true_eq]
 ·obtain⟨x,y,rfl⟩:=od (by simpa[dG]using D)
  rw[Kl _ (aae x y a r) xv]
  have hr:lQ 18 [x,y]=if x=y then 4 else 0:=rfl
  rw[hr];simp only[decide_eq_true_eq]
 ·exact Kl _ (og 19 4 ts a r hl xv) xv
 ·exact Kl _ (og 20 4 ts a r hl xv) xv
 ·exact Kl _ (og 21 4 ts a r hl xv) xv
 ·exact Kl _ (og 22 4 ts a r hl xv) xv
def dn:Cs→List T→Prop
 | [],cs=>cs= []
 |c::l,cs=> ∃ex r,cs=(T.s c.1::ex)++r∧jA c.2 ex∧dn l r
theorem dn.len: ∀{l:Cs} {cs:List T},dn l cs→cs.length=l.length*5
 | [],cs,h=>by grind [dn]
 |c::l,cs,h=>by
  rw[dn]at h
  obtain⟨ex,r,rfl,h1,h2⟩:=h
  rw[List.length_append,List.length_cons,h1.len,h2.len,List.length_cons];omega
theorem dn.drop: ∀{l:Cs} {cs:List T} (k:Nat) (hk:k<l.length),dn l cs→ ∃ex r,cs.drop (k*5)=(T.s l[k].1::ex)++r∧jA l[k].2 ex∧dn (l.drop (k+1)) r
 | [],cs,k,hk,h=>by simp at hk
 |x::xs,cs,0,hk,h=>by
  grind [dn]
 |x::xs,cs,k+1,hk,h=>by
  rw[dn]at h
  obtain⟨c,r,rfl,h1,h2⟩:=h
  obtain⟨D,F,e,h3,h4⟩:=dn.drop k (by simpa using hk) h2
  refine⟨D,F, ?_,h3,by simpa using h4⟩
  have:(k+1)*5=(T.s x.1::c).length+k*5:=by rw[List.length_cons,h1.len];omega
  grind [List.drop_append,Nat.add_sub_cancel_left,List.drop_eq_nil_of_le]
theorem dn.take: ∀{l:Cs} {cs:List T} (k:Nat),dn l cs→dn (l.take k) (cs.take (k*5))
 |l,cs,0,h=>by simp[dn]
 | [],cs,k+1,h=>by grind [dn]
 |x::xs,cs,k+1,h=>by
  rw[dn]at h
  obtain⟨c,r,rfl,h1,h2⟩:=h
  have:(k+1)*5=(T.s x.1::c).length+k*5:=by rw[List.length_cons,h1.len];omega
  rw[List.take_succ_cons,dn]
  refine⟨c,r.take (k*5), ?_,h1,dn.take k h2⟩
  grind [List.take_append,Nat.add_sub_cancel_left,List.take_of_length_le]
theorem fZ{l:Cs}{a:T}{F:List T}(h1:IsSl a l.length F)(h2:dn l F)(k:Nat)(hk:k<l.length):
  ∃b D r,(∀kk,iaV a (.i kk (k:Int)) 5=some (.vp (.s l[k].1:: .i .i64 l[k].2.op:: .i .i64 l[k].2.num:: .s l[k].2.name::b::r)))∧IsSl b l[k].2.args.length D∧cu l[k].2.args D∧jA l[k].2 [.i .i64 l[k].2.op,.i .i64 l[k].2.num,.s l[k].2.name,b]:=by
 obtain⟨c,r,e,h3,h4⟩:=dn.drop k hk h2
 obtain⟨b,D,rfl,h5,h6⟩:=h3.cells
 refine⟨b,D,r,fun kk=> ?_,h5,h6,h3⟩
 rw[h1.ia (sz:=5) h2.len hk,e];rfl
theorem Pq: ∀{l:Cs} {s:List Nat} {i:Nat},fj l s=some i→i<l.length
 | [],s,i,h=>by simp[fj]at h
 |c::cs,s,i,h=>by
  rw[fj]at h
  split at h
  ·grind
  ·cases r:fj cs s with
   |none=>simp[r]at h
   |some j=>
    simp[r]at h
    have:=Pq r
    grind
theorem xz{l:Cs}{s:List Nat}: ∀(k:Nat),k≤l.length→(∀j (h:j<k) (hl:j<l.length),l[j].1≠s)→fj l s=(fj (l.drop k) s).map (· +k)
 |0,_,_=>by simp
 |k+1,hk,h=>by
  have:=xz (l:=l) k yv fun j D hl=>h j yv hl
  have r:k<l.length:=yv
  rw[this,List.drop_eq_getElem_cons r,fj,if_neg (h k yv r)]
  cases fj (l.drop (k+1)) s with
  |none=>rfl
  |some i=>simp;omega
theorem xD(l:Cs)(s:List Nat): ∀n,fj (l.take n) s=match fj l s with|some i=>if i<n then some i else none|none=>none:=by
 induction l with
 |nil=>intro n;simp[fj]
 |cons c l ih=>
  intro n
  cases n with
  |zero=>
   grind [fj]
  |succ n=>
   grind [fj,hi]
def aaf(l:Cs)(s:List Nat):Int:=match fj l s with|none=> -1|some i=>(i:Int)
theorem Em{l:Cs}{s:List Nat}{i:Nat}(h:fj l s=some i):aaf l s=(i:Int):=by unfold aaf;rw[h]
theorem So{l:Cs}{s:List Nat}(h:fj l s=none):aaf l s= -1:=by unfold aaf;rw[h]
theorem ax7(l:Cs)(s:List Nat)(a:T)(O:List T)(K:IsSl a l.length O)(hc:dn l O)(hs:l.length≤jY)(o:Out)(U:o=if fj l s=none then .ext 0 else .ret)(fr:Fr)(lh:aD ah)(sh:List ah)(h0:aa fr 0=a)(h1:aa fr 1= .s s)(h5:aa fr 5= .i .i64 0):
  pT 20 ma fr lh sh o∧
  ((∀i,fj l s=some i→aa (mY pE 20 ma fr lh sh) 4= .i .i64 (i:Int))∧im pE 20 ma fr lh sh=lh∧iH pE 20 ma fr lh sh=sh):=by
 refine cj (P:=fun fr V W=>(∀i,fj l s=some i→aa fr 4= .i .i64 (i:Int))∧V=lh∧W=sh) (cT (fun k st=> ∃fr:Fr,st=⟨fr,lh,sh⟩∧aa fr 0=a∧aa fr 1= .s s∧aa fr 5= .i .i64 (k:Int)∧k≤l.length∧ ∀j (h:j<k) (hl:j<l.length),l[j].1≠s) _ l.length ?_ ?_ 0 _ (Nat.zero_le _) ⟨fr,rfl,h0,h1,h5,Nat.zero_le _,by simp⟩)
 ·rintro k _ hk ⟨fr,rfl,h0,h1,h5,D,N⟩
  have I:(k:Int)<l.length:=yv
  have X:=be (k:=k) yv
  have F:=xz k D N
  rw[List.drop_eq_getElem_cons hk,fj]at F
  obtain⟨b,Y,r,J,_,_,_⟩:=fZ K hc k hk
  by_cases H:l[k].1=s
  ·right
   rw[if_pos H]at F
   simp only[Option.map_some,Nat.zero_add]at F
   simp only[qA,seval,ma,h0,h1,h5,K.lenI,I,J,H]
   refine⟨_,_,abe,rfl,by rw[U,F];rfl,fun i hi=> ?_,rfl,rfl⟩
   rw[F]at hi
   cases hi
   simp only[qA,seval]
  ·left
   simp only[qA,seval,ma,h0,h1,h5,K.lenI,I,J,H,X]
   refine⟨_,rfl,_,rfl, ?_, ?_, ?_,by omega, ?_⟩
   all_goals first|(simp only[qA,seval,h0,h1];done)|skip
   grind
 ·rintro _ ⟨fr,rfl,h0,h1,h5,D,N⟩
  have F:=xz l.length D N
  rw[List.drop_length,fj]at F
  simp only[qA,seval,ma,h0,h5,K.lenI,Int.lt_irrefl]
  grind
theorem aeF(l:Cs)(s:List Nat)(a:T)(F:List T)(H:IsSl a l.length F)(hc:dn l F)(hs:l.length≤jY):ae pE 106 [a,.s s] []=some (.i .i64 (aaf l s),[]):=by
 have r:=fun fr lh sh=>ax7 l s a F H hc hs _ rfl fr lh sh
 rw[au afO (by simp[PB])]
 cases D:fj l s with
 |none=>
  rw[So D]
  simp only[D,if_true,reduceCtorEq,false_implies,implies_true,true_and]at r
  simp only[qA,seval,PB,r]
 |some i=>
  rw[Em D]
  simp only[D,reduceCtorEq,if_false,Option.some.injEq,forall_eq']at r
  simp only[qA,seval,PB,r]
def MP(ts:List Int):Except Int (List Int)→Except Int (List Int)
 | .error e=> .error e
 | .ok us=> .ok (ts++us)
def anh:Except Int (List Int)→Out
 | .error _=> .ret
 | .ok _=> .ext 0
theorem aag{cl:List Nat→Int×Int}{scope:Int}{xs:List Ex}{k:Nat}(hk:k<xs.length):kK cl scope (xs.drop k)=if(xs[k].ty cl scope).2≠0 then .error (xs[k].ty cl scope).2 else MP [(xs[k].ty cl scope).1] (kK cl scope (xs.drop (k+1))):=by
 rw[Sl hk,kK]
 split
 ·rfl
 ·cases kK cl scope (xs.drop (k+1)) <;> rfl
theorem Sq(a b:List Int)(x:Except Int (List Int)):MP a (MP b x)=MP (a++b) x:=by cases x <;> simp[MP]
theorem vU{cl:List Nat→Int×Int}{scope:Int}: ∀{xs:List Ex} {ts:List Int},kK cl scope xs= .ok ts→ts.length=xs.length
 | [],ts,h=>by grind [kK]
 |x::xs,ts,h=>by
  rw[kK]at h
  split at h
  ·cases h
  ·cases hx:kK cl scope xs with
   |error e=>grind
   |ok us=>rw[hx]at h;cases h;simp[vU hx]
theorem Zh{lh:aD ah}{sh:List ah}{v:T}{k n:Nat}{cs:List T}(h:bg lh v k 1 n cs)(r:n≤jY)(x:T)(ex:Bool):
  appW lh sh k 1 8 v (.sl [x] 1 ex)=some (nxV lh sh k 1 8 v (.sl [x] 1 ex),Rd lh sh k 1 8 v (.sl [x] 1 ex))∧bg (Rd lh sh k 1 8 v (.sl [x] 1 ex)) (nxV lh sh k 1 8 v (.sl [x] 1 ex)) k 1 (n+1) (cs++ [x])∧ ∀j,j≠k→ab (Rd lh sh k 1 8 v (.sl [x] 1 ex)) j=ab lh j:=
 bg.appW h (m:=0) (by rw[Fk];rfl) rfl (by unfold roomy;unfold jY at r;omega)
section
variable(l:Cs)(tab:List (Int×Int))(lT kT eT:T)(cl:List T)(hl:IsSl lT l.length cl)(hcl:dn l cl)(hlen:l.length≤jY)(aET:tab.length=l.length)(hk:IsSl kT tab.length (ints (tab.map (·.1))))(he:IsSl eT tab.length (ints (tab.map (·.2))))
include hl hk he
include hcl hlen aET
end
theorem qR(l:Cs): ∀n,(iX l n).length=n
 |0=>rfl
 |n+1=>by rw[iX,List.length_append,qR l n];rfl
theorem xE(l:Cs){n:Nat}(h:n<l.length):iX l (n+1)=iX l n++ [FG (l.take n) (iX l n) l[n].2]:=by
 rw[iX];simp[List.getD_eq_getElem?_getD,List.getElem?_eq_getElem h]
def smC(l:Cs):Prop:= ∀c∈l,0≤c.2.nodes∧c.2.sm
theorem JV(a:List Int)(x:Int):ints (a++ [x])=ints a++ [.i .i64 x]:=by simp[ints]
section
variable(l:Cs)(lT:T)(cl:List T)(hl:IsSl lT l.length cl)(hcl:dn l cl)(hlen:l.length≤jY)(tJ:smC l)
include hl hcl hlen tJ
end
theorem B5{α:Type}: ∀(A R:List α) (j:Nat) (r:List α),splice (A++R) (A.length+j) r=A++splice R j r
 | [],R,j,r=>by simp
 |a::A,R,j,r=>by
  rw[List.cons_append,List.length_cons,show A.length+1+j=(A.length+j)+1 by omega,splice,B5 A R j r];rfl
theorem yu{α:Type}: ∀(z R r:List α),r.length=z.length→splice (z++R) 0 r=r++R
 | [],R,[],_=>by cases R <;> rfl
 |c::z,R,v::r,h=>by simp_all[List.cons_append,splice,yu]
theorem B6{α:Type}(A z R r:List α)(k:Nat)(hk:A.length=k)(h:r.length=z.length):splice (A++(z++R)) k r=(A++r)++R:=by
 have:=B5 A (z++R) 0 r
 simp_all[Nat.add_zero,yu,List.append_assoc]
theorem xF{α:Type}(z:List α)(n:Nat):repl z (n+1)=z++repl z n:=rfl
theorem B7{α:Type}(z:List α): ∀n,(repl z n).length=n*z.length
 |0=>by simp[repl]
 |n+1=>by rw[xF,List.length_append,B7 z n,Nat.succ_mul,Nat.add_comm]
def bH(l:Cs):Nat→List (List Nat×Nat)
 |0=> []
 |n+1=>match aM (bH l n) (l.getD n ([],.mk 0 0 [] [])).1 with
  |none=>bH l n++ [((l.getD n ([],.mk 0 0 [] [])).1,n)]
  |some _=>bH l n
theorem xG(l:Cs){n:Nat}(h:n<l.length):bH l (n+1)=match aM (bH l n) l[n].1 with
  |none=>bH l n++ [(l[n].1,n)]
  |some _=>bH l n:=by
 rw[bH];simp[List.getD_eq_getElem?_getD,List.getElem?_eq_getElem h]
theorem EA(s:List Nat)(c:List Nat×Ex): ∀l:Cs,fj (l++ [c]) s=match fj l s with|some i=>some i|none=>if c.1=s then some l.length else none
 | []=>by simp[fj]
 |d::l=>by
  rw[List.cons_append,fj,fj,EA s c l]
  grind
theorem rV(l:Cs)(s:List Nat): ∀n,n≤l.length→aM (bH l n) s=fj (l.take n) s
 |0,_=>by simp[bH,aM,fj]
 |n+1,h=>by
  have r:n<l.length:=yv
  rw[xG l r,List.take_succ_eq_append_getElem r,EA]
  have ih:=rV l s n yv
  have D:=rV l l[n].1 n yv
  grind [lC,List.length_take,Nat.min_eq_left,hi]
def sK(s:List Nat):T:= .s s
def nK(n:Nat):T:= .i .i64 (n:Int)
def iV(n:Int):T:= .i .i64 n
theorem CS(a b:List Nat):pP (.one .str) (sK a) (sK b)=some (decide (a=b)):=awj
theorem afl(a b:Nat):pP (.one .int) (nK a) (nK b)=some (decide (a=b)):=by
 grind [nK,awk]
def tK(lT:T)(m:List (List Nat×Nat))(kn:List (Nat×Int)):List ah:=
 [⟨1,.map (m.map fun p=>sK p.1) (m.map fun p=>nK p.2) false⟩,⟨1,.map (kn.map fun p=>nK p.1) (kn.map fun p=>iV p.2) false⟩,⟨1,.cells [lT,.mp .S 0 1,.mp .S 1 1] 0 true⟩]
section
variable(lT:T)(m:List (List Nat×Nat))(kn:List (Nat×Int))
theorem ch0:aI (tK lT m kn) 0=⟨1,.map (m.map fun p=>sK p.1) (m.map fun p=>nK p.2) false⟩:=nr rfl
theorem ch1:aI (tK lT m kn) 1=⟨1,.map (kn.map fun p=>nK p.1) (kn.map fun p=>iV p.2) false⟩:=nr rfl
theorem ch2:aI (tK lT m kn) 2=⟨1,.cells [lT,.mp .S 0 1,.mp .S 1 1] 0 true⟩:=nr rfl
theorem aEV(r:List (List Nat×Nat)):bI (tK lT m kn) 0 ⟨1,.map (r.map fun p=>sK p.1) (r.map fun p=>nK p.2) false⟩=tK lT r kn:=nr rfl
theorem aEW(r:List (Nat×Int)):bI (tK lT m kn) 1 ⟨1,.map (r.map fun p=>nK p.1) (r.map fun p=>iV p.2) false⟩=tK lT m r:=nr rfl
theorem ax9:tK lT [] []= [⟨1,.map [] [] false⟩,⟨1,.map [] [] false⟩,⟨1,.cells [lT,.mp .S 0 1,.mp .S 1 1] 0 true⟩]:=nr rfl
end
def S4(r:Option Nat):T:=match r with|some v=> .tup [nK v,.b true]|none=> .tup [.i .i64 0,.b false]
theorem lkS(m:List (List Nat×Nat))(s:List Nat):iu (.one .str) (m.map fun p=>sK p.1) (m.map fun p=>nK p.2) (.s s) (.i .i64 0) true=some (S4 (aM m s)):=by
 have:=ali (kT:=sK) (vT:=nK) CS (fun _=>rfl) m s (.i .i64 0)
 rw[show(T.s s)=sK s from rfl,this];unfold S4;cases aM m s <;> rfl
section
variable(l:Cs)(lT:T)(cl:List T)(hl:IsSl lT l.length cl)(hcl:dn l cl)(hlen:l.length≤jY)
include hl hcl hlen
theorem aEX(fr:Fr)(lh:aD ah)(sh:List ah)(V:sh=tK lT [] [])
  (h3:aa fr 3= .ptr .S 2 1 0) (F:aa fr 13=lT) (D:aa fr 14= .i .i64 (l.length:Int)) (H:aa fr 15= .i .i64 0):
  pT 41 oz fr lh sh (.ext 0)∧
  (iH pE 41 oz fr lh sh=tK lT (bH l l.length) []):=by
 refine cj (P:=fun Y Z W=>W=tK lT (bH l l.length) [])
  (cT (fun k st=> ∃(fr:Fr) (N:aD ah),st=⟨fr,N,tK lT (bH l k) []⟩∧aa fr 3= .ptr .S 2 1 0∧aa fr 13=lT∧aa fr 14= .i .i64 (l.length:Int)∧aa fr 15= .i .i64 (k:Int)) _ l.length ?_ ?_ 0 _ (Nat.zero_le _) ⟨fr,lh,by rw[V];rfl,h3,F,D,H⟩)
 ·rintro k _ hk ⟨fr,N,rfl,h3,F,D,H⟩
  left
  have J:(k:Int)<l.length:=yv
  have U:=be (k:=k) yv
  obtain⟨b,cb,r,K,fL,rP,hb⟩:=fZ hl hcl k hk
  have I:=lkS (bH l k) l[k].1
  rw[xG l hk]
  cases O:aM (bH l k) l[k].1 with
  |some i=>
   rw[O]at I
   unfold S4 at I
   simp only[qA,seval,bp,aH,dx,oz,h3,F,D,H,J,K,U,ch2,ch0,bW,I]
   refine⟨_,rfl,_,_,rfl, ?_, ?_, ?_, ?_⟩ <;> simp only[qA,seval,h3,F,D]
  |none=>
   rw[O]at I
   unfold S4 at I
   have X:lF (.one .str) (.s l[k].1) (.i .i64 (k:Int)) ((bH l k).map fun p=>sK p.1) ((bH l k).map fun p=>nK p.2)=_:=vd (kT:=sK) (vT:=nK) CS (bH l k) l[k].1 k O
   simp only[qA,seval,bp,aH,dx,oz,h3,F,D,H,J,K,U,ch2,ch0,bW,I,yj,X,aEV]
   refine⟨_,rfl,_,_,rfl, ?_, ?_, ?_, ?_⟩ <;> simp only[qA,seval,h3,F,D]
 ·rintro _ ⟨fr,N,rfl,h3,F,D,H⟩
  simp only[qA,seval,oz,D,H,Int.lt_irrefl]
  grind
theorem alA:ae pE 131 [lT] []=some (.ptr .S 2 1 0,tK lT (bH l l.length) []):=by
 have r:=fun fr lh sh=>aEX l lT cl hl hcl hlen fr lh sh
 rw[ax9]at r
 rw[au af4 (by simp[Tv])]
 simp only[qA,seval,eJ,dx,Tv,PI,hl.lenI,hl.cells,hl.noTup,hl.kept1,r]
end
theorem Km(l:Cs)(n:Nat): ∀k,∃r,iX l (n+k)=iX l n++r
 |0=>⟨[],by simp⟩
 |k+1=>by
  obtain⟨r,h⟩:=Km l n k
  grind [Nat.add_assoc,iX]
theorem B8(l:Cs){n i:Nat}(D:n≤l.length)(hi:i<n):(iX l n).getD i (0,6)=(iX l l.length).getD i (0,6):=by
 obtain⟨r,h⟩:=Km l n (l.length-n)
 grind [qR,hi]
def sa(l:Cs)(i:Nat):Int×Int:=(iX l l.length).getD i (0,6)
theorem FN(l:Cs){i:Nat}(hi:i<l.length):sa l i=FG (l.take i) (iX l i) l[i].2:=by
 unfold sa
 rw[←B8 l (n:=i+1) yv yv,xE l hi,List.getD_eq_getElem?_getD,List.getElem?_append_right (by rw[qR];omega),qR,Nat.sub_self]
 rfl
theorem ani{cl:List Nat→Int×Int}(hcl: ∀s,(cl s).2≠0→(cl s).1=0)(scope:Int)(x:Ex)(h:(x.ty cl scope).2≠0):(x.ty cl scope).1=0:=by
 grind [Ex.ty_eq]
theorem afm(l:Cs)(tab:List (Int×Int))(h: ∀t∈tab,t.2≠0→t.1=0)(s:List Nat):(clk l tab s).2≠0→(clk l tab s).1=0:=by
 grind [clk]
theorem B9(l:Cs): ∀n,∀t∈iX l n,t.2≠0→t.1=0
 |0=>by simp[iX]
 |n+1=>by
  intro t ht
  rw[iX]at ht
  rcases List.mem_append.1 ht with ht|ht
  ·exact B9 l n t ht
  ·rw[List.mem_singleton]at ht
   subst ht
   unfold FG
   split
   ·intro _;rfl
   ·exact ani (afm _ _ (B9 l n)) _ _
section
variable(l:Cs)(lT:T)(cl:List T)(hl:IsSl lT l.length cl)(hcl:dn l cl)(hlen:l.length≤jY)(tJ:smC l)
def vt(kn:List (Nat×Int)):Prop:= ∀i t,aM kn i=some t→i<l.length∧sa l i=(t,0)
def anj(j:Nat):Prop:= ∀kn,vt l kn→ ∃r,ae pE 132 [.ptr .S 2 1 0,.i .i64 (j:Int)] (tK lT (bH l l.length) kn)=some (.tup [.i .i64 (sa l j).1,.i .i64 (sa l j).2],tK lT (bH l l.length) r)∧vt l r∧ ∀i,j<i→aM r i=aM kn i
def FL(n:Nat):List Nat→Int×Int:=clk (l.take n) (iX l n)
def ayb(n:Nat)(scope:Int)(y:Ex):Prop:= ∀kn,vt l kn→ ∀cs:List T,jA y cs→y.nodes≤100000→y.wf=true→ ∃r,ae pE 260 [.ptr .S 2 1 0,.i .i64 scope,.i .i64 (n:Int),.agg cs] (tK lT (bH l l.length) kn)=some (.tup [.i .i64 (y.ty (FL l n) scope).1,.i .i64 (y.ty (FL l n) scope).2],tK lT (bH l l.length) r)∧vt l r∧ ∀i,n≤i→aM r i=aM kn i
include hl
theorem aEY(n:Nat)(scope:Int)(xs:List Ex)(ih: ∀y∈xs,ayb l lT n scope y)(a:T)(cc:List T)(ha:IsSl a xs.length cc)(hx:cu xs cc)(hn:fW xs≤100000)(zD:FF xs=true)(kn:List (Nat×Int))(jj:vt l kn)(r:Except Int (List Int))(hr:r=kK (FL l n) scope xs)(o:Out)(ho:o=anh r)(g:Nat)(c7:ah)(fr:Fr)(lh:aD ah)(sh:List ah)(ft:sh=tK lT (bH l l.length) kn)
  (h0:aa fr 0= .ptr .S 2 1 0) (h1:aa fr 1= .i .i64 scope) (h2:aa fr 2= .i .i64 (n:Int)) (N:aa fr 14= .isl .L 57 g 0 xs.length 1) (Hg:aa fr 59=a) (C2:aa fr 60= .i .i64 (xs.length:Int)) (Hh:aa fr 61= .i .i64 0) (Kn:ab lh 57=⟨g,.cells (repl [.i .i64 0] xs.length) 0 false⟩) (J:ab lh 7=c7):
  pT 89 iJ fr lh sh o∧
  ((∀e,r= .error e→aa (mY pE 89 iJ fr lh sh) 8= .i .i64 0∧aa (mY pE 89 iJ fr lh sh) 9= .i .i64 e)∧(∀ts,r= .ok ts→ab (im pE 89 iJ fr lh sh) 57=⟨g,.cells (ints ts) 0 false⟩)∧
    ab (im pE 89 iJ fr lh sh) 7=c7∧ ∃I,iH pE 89 iJ fr lh sh=tK lT (bH l l.length) I∧vt l I∧ ∀i,n≤i→aM I i=aM kn i):=by
 have _:=hl
 refine cj (P:=fun bK aU aX=>(∀e,r= .error e→aa bK 8= .i .i64 0∧aa bK 9= .i .i64 e)∧(∀ts,r= .ok ts→ab aU 57=⟨g,.cells (ints ts) 0 false⟩)∧ab aU 7=c7∧ ∃I,aX=tK lT (bH l l.length) I∧vt l I∧ ∀i,n≤i→aM I i=aM kn i)
  (cT (fun k st=> ∃(fr:Fr) (O:aD ah) (ts:List Int) (Jq:List (Nat×Int)),st=⟨fr,O,tK lT (bH l l.length) Jq⟩∧aa fr 0= .ptr .S 2 1 0∧aa fr 1= .i .i64 scope∧aa fr 2= .i .i64 (n:Int)∧aa fr 14= .isl .L 57 g 0 xs.length 1∧aa fr 59=a∧aa fr 60= .i .i64 (xs.length:Int)∧aa fr 61= .i .i64 (k:Int)∧ab O 7=c7∧
    ab O 57=⟨g,.cells (ints ts++repl [.i .i64 0] (xs.length-k)) 0 false⟩∧ts.length=k∧r=MP ts (kK (FL l n) scope (xs.drop k))∧vt l Jq∧ ∀i,n≤i→aM Jq i=aM kn i) _ xs.length ?_ ?_ 0 _ (Nat.zero_le _) ⟨fr,lh,[],kn,by rw[ft],h0,h1,h2,N,Hg,C2,Hh,J,by rw[Kn];rfl,rfl,by rw[hr,List.drop_zero];cases kK (FL l n) scope xs <;> rfl,jj,fun _ _=>rfl⟩)
 ·rintro k _ SY ⟨fr,O,ts,Jq,rfl,h0,h1,h2,N,Hg,C2,Hh,J,Kn,F,D,MQ,Ko⟩
  have U:(k:Int)<xs.length:=yv
  have VL:=fX xs
  have hyk:=lP (List.getElem_mem SY)
  have hw:=be (k:=k) (gH yv)
  obtain⟨b,cb,rr,V,fL,rP,hb⟩:=oZ ha hx k SY
  obtain⟨Oq,K,W,Mu⟩:=ih xs[k] (List.getElem_mem SY) Jq MQ _ hb yv (zg.1 zD _ (List.getElem_mem SY))
  rw[aag SY]at D
  by_cases H:(xs[k].ty (FL l n) scope).2=0
  ·left
   rw[if_neg (by simp[H]),Sq]at D
   generalize xs[k].ty (FL l n) scope=q at K H D
   obtain⟨X,q2⟩:=q
   simp only at K H D
   subst H
   have GY:(ints ts++repl [T.i .i64 0] (xs.length-k)).length=xs.length:=by rw[List.length_append,dX,B7,F];simp;omega
   have Y:splice (ints ts++repl [T.i .i64 0] (xs.length-k)) k [.i .i64 X]=ints (ts++ [X])++repl [T.i .i64 0] (xs.length-(k+1)):=by
    rw[show xs.length-k=(xs.length-(k+1))+1 by omega,xF,B6 (ints ts) [T.i .i64 0] _ [T.i .i64 X] k (by rw[dX];exact F) rfl,JV]
   have Z:k+1≤xs.length:=yv
   simp only[qA,seval,dx,iJ,h0,h1,h2,N,Hg,C2,Hh,Kn,U,V,hw,K,Vg,fL.kept1,SY,GY,Y,Z]
   refine⟨_,rfl,_,_,ts++ [X],Oq,rfl, ?_, ?_, ?_, ?_, ?_, ?_, ?_, ?_, ?_,by simp[F],D,W,fun i hi=>by rw[Mu i hi,Ko i hi]⟩
   all_goals first|(simp only[qA,seval,h0,h1,h2,N,Hg,C2,J];done)|skip
  ·right
   rw[if_pos (by simp[H])]at D
   generalize xs[k].ty (FL l n) scope=q at K H D
   obtain⟨X,q2⟩:=q
   simp only at K H D
   simp only[qA,seval,dx,iJ,h0,h1,h2,Hg,C2,Hh,U,V,K,Vg,fL.kept1,H]
   refine⟨_,_,abe,rfl,by rw[ho,D];rfl,fun e he=> ?_,fun t ht=>(by rw[D]at ht;cases ht),by simp only[qA,seval,J],Oq,rfl,W,fun i hi=>by rw[Mu i hi,Ko i hi]⟩
   rw[D]at he
   cases he
   exact⟨by simp only[qA,seval],by simp only[qA,seval]⟩
 ·rintro _ ⟨fr,O,ts,Jq,rfl,h0,h1,h2,N,Hg,C2,Hh,J,Kn,F,D,MQ,Ko⟩
  rw[List.drop_length,kK,MP,List.append_nil]at D
  rw[Nat.sub_self,show repl [T.i .i64 0] 0= []from rfl,List.append_nil]at Kn
  simp only[qA,seval,iJ,C2,Hh,Int.lt_irrefl]
  refine⟨_,_,sV,rfl,by rw[ho,D];rfl,fun e he=>(by rw[D]at he;cases he),fun t ht=> ?_,J,Jq,rfl,MQ,Ko⟩
  grind
include hcl hlen
theorem anl(n:Nat)(Lc:n≤l.length)(hc: ∀j,j<n→anj l lT j)(scope:Int)(x:Ex):ayb l lT n scope x:=by
 have _:=hlen
 have _:=hcl
 induction x using Ex.ind with
 |h x ih=>
  intro kn jj cs hx hn zD
  obtain⟨a,cc,rfl,ha,SK⟩:=hx.cells
  rw[au ahu (by simp[Ai]),Ex.ty_eq]
  have hnd:=x.nodes_eq
  rw[Ex.wf_eq,Bool.and_eq_true]at zD
  obtain⟨yB,yA⟩:=zD
  have N:=I1 scope x.name
  have yV:=fX x.args
  have CZ:x.args.length≤jY:=gH yv
  simp only[qC,Bool.and_eq_true,decide_eq_true_eq]at yB
  obtain⟨aEZ,aE0,eZ,_,_⟩:=yB
  by_cases h6:x.op=6
  ·rw[if_pos h6]
   unfold qz at N
   by_cases J:dB scope x.name=0
   ·rw[if_neg (by simp[J])]
    rw[if_pos J,J]at N
    have K:=lkS (bH l l.length) x.name
    rw[rV l x.name l.length (Nat.le_refl _),List.take_length]at K
    have xS:FL l n x.name=match fj l x.name with|some i=>if i<n then sa l i else(0,6)|none=>(0,6):=by
     unfold FL clk
     rw[xD]
     cases hi:fj l x.name with
     |none=>rfl
     |some i=>
      simp only
      by_cases O:i<n
      ·rw[if_pos O,if_pos O];exact B8 l Lc O
      ·grind
    rw[xS]
    cases hi:fj l x.name with
    |none=>
     rw[hi]at K
     unfold S4 at K
     simp only[qA,seval,Ai,h6,N,UB,ch2,ch0,bW,K]
     grind
    |some i=>
     rw[hi]at K
     rw[show S4 (some i)= .tup [.i .i64 (i:Int),.b true]from rfl]at K
     by_cases O:i<n
     ·obtain⟨r,aE,jf,afo⟩:=hc i O kn jj
      have U:(i:Int)<n:=yv
      simp only[O,if_true]
      simp only[qA,seval,dx,Ai,h6,N,UB,ch2,ch0,bW,K,U,aE,af6]
      grind
     ·have U: ¬(i:Int)<n:=yv
      simp only[O,if_false]
      simp only[qA,seval,Ai,h6,N,UB,ch2,ch0,bW,K,U]
      grind
   ·rw[if_pos J]
    rw[if_neg J]at N
    simp only[qA,seval,Ai,h6,N,UB]
    grind
  ·rw[if_neg h6]
   have W:=fun c7 fr lh sh F h0 h1 h2 H Hg C2 Hh Kn I=>aEY l lT cl hl n scope x.args (fun y hy=>ih y hy) a cc ha SK yv yA kn jj _ rfl _ rfl 1 c7 fr lh sh F h0 h1 h2 H Hg C2 Hh Kn I
   have V:x.args.length*8≤roomy∧x.args.length≤roomy:=by unfold jY at CZ;unfold roomy;omega
   have hS:=fun c7 fr lh sh F h0 h1 h2 H Hg C2 Hh Kn I=>(W c7 fr lh sh F h0 h1 h2 H Hg C2 Hh Kn I).2.2.2.2
   cases hr:kK (FL l n) scope x.args with
   |error e=>
    have D:=fun c7 fr lh sh F h0 h1 h2 H Hg C2 Hh Kn I=>And.intro (W c7 fr lh sh F h0 h1 h2 H Hg C2 Hh Kn I).1 ((W c7 fr lh sh F h0 h1 h2 H Hg C2 Hh Kn I).2.1 e hr)
    simp only[hr,anh]at D
    simp only[qA,seval,Ai,h6,ha.lenI,V,D]
    generalize Y:iH _ _ _ _ _ _=X
    obtain⟨r,e1,e2,e3⟩: ∃r,X=tK lT (bH l l.length) r∧vt l r∧ ∀i,n≤i→aM r i=aM kn i:=by
     rw[←Y]
     refine hS _ _ _ _ rfl ?_ ?_ ?_ ?_ ?_ ?_ ?_ ?_ rfl <;> simp only[qA,seval]
    grind
   |ok ts=>
    have Pr:=vU hr
    have D:=fun c7 fr lh sh F h0 h1 h2 H Hg C2 Hh Kn I=>And.intro (W c7 fr lh sh F h0 h1 h2 H Hg C2 Hh Kn I).1 (W c7 fr lh sh F h0 h1 h2 H Hg C2 Hh Kn I).2.2.2.1
    have hF:=fun c7 fr lh sh F h0 h1 h2 H Hg C2 Hh Kn I=>(W c7 fr lh sh F h0 h1 h2 H Hg C2 Hh Kn I).2.2.1 ts hr
    have lZ:(ints ts).length=x.args.length:=by rw[dX,Pr]
    have Z:List.take x.args.length (ints ts)=ints ts:=List.take_of_length_le yv
    simp only[hr,anh]at D
    have CA:=MO x.op ts (.sl (ints ts) x.args.length false) (Or.inr ⟨false,by rw[Pr]⟩) (by rw[Pr];exact CZ) aEZ aE0 h6 (by rw[Pr];exact eZ)
    by_cases J:lQ x.op ts=0
    ·rw[J]at CA
     simp only[qA,seval,Ai,Dq,h6,ha.lenI,V,D ⟨1,.cells [.i .i64 x.op,.i .i64 x.num,.s x.name,a] 0 true⟩,hF ⟨1,.cells [.i .i64 x.op,.i .i64 x.num,.s x.name,a] 0 true⟩,CA,ahG,J,lZ,Z]
     generalize Y:iH _ _ _ _ _ _=X
     obtain⟨r,e1,e2,e3⟩: ∃r,X=tK lT (bH l l.length) r∧vt l r∧ ∀i,n≤i→aM r i=aM kn i:=by
      rw[←Y]
      refine hS _ _ _ _ rfl ?_ ?_ ?_ ?_ ?_ ?_ ?_ ?_ rfl <;> simp only[qA,seval]
     grind
    ·simp only[qA,seval,Ai,Dq,h6,ha.lenI,V,D ⟨1,.cells [.i .i64 x.op,.i .i64 x.num,.s x.name,a] 0 true⟩,hF ⟨1,.cells [.i .i64 x.op,.i .i64 x.num,.s x.name,a] 0 true⟩,CA,ahG,J,lZ,Z]
     generalize Y:iH _ _ _ _ _ _=X
     obtain⟨r,e1,e2,e3⟩: ∃r,X=tK lT (bH l l.length) r∧vt l r∧ ∀i,n≤i→aM r i=aM kn i:=by
      rw[←Y]
      refine hS _ _ _ _ rfl ?_ ?_ ?_ ?_ ?_ ?_ ?_ ?_ rfl <;> simp only[qA,seval]
     grind
end
theorem ic{x:Ex}(r:bL x=0):x.wf=true:=by
 unfold bL at r
 by_cases D:big x
 ·rw[if_pos D]at r;cases r
 ·rw[if_neg D]at r
  cases hx:x.wf with
  |true=>rfl
  |false=>rw[hx]at r;cases r
section
variable(l:Cs)(lT:T)(cl:List T)(hl:IsSl lT l.length cl)(hcl:dn l cl)(hlen:l.length≤jY)(tJ:smC l)
include hl hcl hlen
def Rq(n:Nat)(scope:Int)(x:Ex):Int×Int:=if bL x≠0 then(0,bL x)else x.ty (FL l n) scope
theorem X3(n:Nat)(Lc:n≤l.length)(hc: ∀j,j<n→anj l lT j)(scope:Int)(x:Ex)(cs:List T)(hx:jA x cs)(J:0≤x.nodes)(hs:x.sm)(kn:List (Nat×Int))(I:vt l kn):
  ∃F,ae pE 217 [.ptr .S 2 1 0,.i .i64 scope,.i .i64 (n:Int),.agg cs] (tK lT (bH l l.length) kn)=some (.tup [.i .i64 (Rq l n scope x).1,.i .i64 (Rq l n scope x).2],tK lT (bH l l.length) F)∧vt l F∧ ∀i,n≤i→aM F i=aM kn i:=by
 have r:=fun z fr lh sh=>nO (z:=z) (fr:=fr) (lh:=lh) (sh:=sh) x cs hx J hs
 have H:=fun h=>anl l lT cl hl hcl hlen n Lc hc scope x kn I cs hx h
 obtain⟨a,O,rfl,K,SK⟩:=hx.cells
 rw[au ag2 (by simp[P5])]
 unfold Rq
 by_cases D:bL x=0
 ·rw[if_neg (by simp[D])]
  obtain⟨F,N,h2,h3⟩:=H (by have:=aac D;omega) (ic D)
  rw[D]at r
  simp only[qA,seval,dx,P5,r,N,Vg,K.kept1]
  exact⟨F,rfl,h2,h3⟩
 ·rw[if_pos D]
  generalize bL x=e at r D ⊢
  simp only[qA,seval,P5,r,D]
  exact⟨kn,rfl,I,fun _ _=>rfl⟩
include tJ
theorem X4: ∀j,j<l.length→anj l lT j:=by
 intro j
 induction j using Nat.strongRecOn with
 |ind j ih=>
  intro K kn U
  obtain⟨b,cb,r,N,W,rP,Z⟩:=fZ hl hcl j K
  obtain⟨yl,V⟩:=tJ l[j] (List.getElem_mem K)
  obtain⟨H,I,X,F⟩:=X3 l lT cl hl hcl hlen j yv (fun i hi=>ih i hi yv) 0 l[j].2 _ Z yl V kn U
  have CC:sa l j=Rq l j 0 l[j].2:=by rw[FN l K];rfl
  rw[←CC]at I
  have D:(sa l j).2≠0→(sa l j).1=0:=by
   unfold sa
   rw[List.getD_eq_getElem?_getD,List.getElem?_eq_getElem (by rw[qR];exact K)]
   exact B9 l _ _ (List.getElem_mem _)
  have J:iu (.one .int) (kn.map fun p=>nK p.1) (kn.map fun p=>iV p.2) (.i .i64 (j:Int)) (.i .i64 0) true=_:=ali (kT:=nK) (vT:=iV) afl (fun _=>rfl) kn j (.i .i64 0)
  rw[au af5 (by simp[KT])]
  cases O:aM kn j with
  |some t=>
   obtain⟨_,ht⟩:=U j t O
   rw[O]at J
   simp only[show iV t= .i .i64 t from rfl]at J
   rw[ht]
   simp only[qA,seval,KT,ch2,ch1,bW,J]
   exact⟨kn,rfl,U,fun _ _=>rfl⟩
  |none=>
   rw[O]at J
   generalize he:sa l j=q at I D ⊢
   obtain⟨Y,q2⟩:=q
   simp only at I D ⊢
   by_cases h0:q2=0
   ·subst h0
    have yB:aM H j=none:=by rw[F j (Nat.le_refl _),O]
    have iQ:lF (.one .int) (.i .i64 (j:Int)) (.i .i64 Y) (H.map fun p=>nK p.1) (H.map fun p=>iV p.2)=_:=vd (kT:=nK) (vT:=iV) afl H j Y yB
    simp only[qA,seval,dx,KT,ch2,ch1,bW,J,N,W.kept1,I,H0,aib,iQ,aEW]
    refine⟨_,rfl, ?_, ?_⟩
    ·intro i t hi
     rw[lC]at hi
     cases CG:aM H i with
     |some u=>rw[CG]at hi;cases hi;exact X i _ CG
     |none=>
      rw[CG]at hi
      simp only at hi
      split at hi
      ·rename_i e;subst e;cases hi;exact⟨K,he⟩
      ·cases hi
    ·intro i hi
     rw[lC,F i yv]
     cases aM kn i with
     |some u=>rfl
     |none=>simp only;rw[if_neg yv]
   ·rw[D h0]
    rw[D h0]at I
    simp only[qA,seval,dx,KT,ch2,ch1,bW,J,N,W.kept1,I,H0,h0]
    exact⟨H,rfl,X,fun i hi=>F i yv⟩
end
def bd(n:Int):Prop:= -1099511627776≤n∧n≤1099511627776
theorem kP{x y:Bool}:pP (.one .bool) (.b x) (.b y)=some (x==y):=rfl
theorem rW(n:Int):bd (bC n):=by unfold bd bC;omega
theorem EB{n:Int}(h:bd n):bC n=n:=by unfold bd at h;unfold bC;omega
theorem EC(n:Int):(if(if n<1099511627776 then n else(1099511627776:Int))> -1099511627776 then(if n<1099511627776 then n else(1099511627776:Int))else-1099511627776)=bC n:=by
 unfold bC;split <;> split <;> omega
theorem xH(n:Int):ae pE 145 [.i .i64 n] []=some (.i .i64 (bC n),[]):=by
 rw[au agk (by simp[TB]),←EC]
 simp only[qA,seval,TB]
theorem Sr(n:Int):ae pE 179 [.i .i64 n] []=some (.i .i64 (bC n),[]):=by
 rw[au U3 (by simp[KW]),←EC]
 simp only[qA,seval,KW]
theorem aah{a b:Int}(r:bd a)(D:bd b):wr .i64 (a+b)=a+b:=by unfold bd at *; exact bj ⟨by omega,by omega⟩
theorem GG{a:Int}(r:bd a):wr .i64 (0-a)= -a:=by unfold bd at *; rw[bj ⟨by omega,by omega⟩];omega
theorem tH{a:Int}(r:bd a):bd (-a):=by unfold bd at *; omega
theorem GH{a b:Int}(F:bd a)(H:bd b):ae pE 148 [.i .i64 a,.i .i64 b] []=some (.i .i64 (bC (a+b)),[]):=by
 have D:=aah F H
 have hc:=xH (a+b)
 clear F H
 rw[au agl (by simp[HR])]
 by_cases h1:0≤a
 ·have r: ¬a<0:=yv
  by_cases h2:0≤b
  ·have h3: ¬a+b<0:=yv
   simp only[qA,seval,HR,D,hc,HY,h1,r,h2,h3]
  ·simp only[qA,seval,HR,D,hc,HY,h1,r,h2]
 ·have r:a<0:=yv
  by_cases h2:b<0
  ·have h3: ¬0≤a+b:=yv
   simp only[qA,seval,HR,D,hc,HY,h1,r,h2,h3]
  ·simp only[qA,seval,HR,D,hc,HY,h1,r,h2]
theorem GI{a b:Int}(F:bd a)(H:bd b):ae pE 180 [.i .i64 a,.i .i64 b] []=some (.i .i64 (bC (a+b)),[]):=by
 have D:=aah F H
 have hc:=Sr (a+b)
 clear F H
 rw[au U4 (by simp[EL])]
 by_cases h1:0<a
 ·have r: ¬a<0:=yv
  by_cases h2:0<b
  ·have h3: ¬a+b<0:=yv
   simp only[qA,seval,EL,D,hc,Al,h1,r,h2,h3]
  ·simp only[qA,seval,EL,D,hc,Al,h1,r,h2]
 ·by_cases r:a<0
  ·by_cases h2:b<0
   ·have h3: ¬0≤a+b:=yv
    simp only[qA,seval,EL,D,hc,Al,h1,r,h2,h3]
   ·simp only[qA,seval,EL,D,hc,Al,h1,r,h2]
  ·simp only[qA,seval,EL,D,hc,Al,h1,r]
theorem aai{a:Int}(h:bd a)(h0: ¬a<0):wr .u64 a=(a.natAbs:Int):=by unfold bd at h;rw[mz ⟨by omega,by omega⟩];omega
theorem aye(n:Int):IntKind.wrap .u64 n=n%18446744073709551616:=by
 unfold IntKind.wrap
 have r:(IntKind.u64).bits=64:=rfl
 simp only[r]
 rw[if_neg (by simp[IntKind.signed])]
 rfl
theorem GJ(n:Int):wr .u64 n=n%18446744073709551616:=by
 show(if(0:Int)≤n∧n≤18446744073709551615 then n else IntKind.wrap .u64 n)=_
 rw[aye]
 split <;> omega
theorem Ps{a:Int}(h:bd a)(h0:a<0):wr .u64 (0-wr .u64 a)=(a.natAbs:Int):=by
 unfold bd at h
 rw[GJ,GJ];omega
theorem Pt{a:Int}(h:bd a):ae pE 267 [.i .i64 a] []=some (.i .u64 (a.natAbs:Int),[]):=by
 rw[au ahz (by simp[Qb])]
 by_cases h0:a<0
 ·have r:=Ps h h0
  simp only[qA,seval,Qb,h0,r]
 ·have r:=aai h h0
  simp only[qA,seval,Qb,h0,r]
theorem zL{a:Int}(h:bd a):ae pE 244 [.i .i64 a] []=some (.i .u64 (a.natAbs:Int),[]):=by
 rw[au ahm (by simp[Qa])]
 by_cases h0:a<0
 ·have r:=Ps h h0
  simp only[qA,seval,Qa,h0,r]
 ·have r:=aai h h0
  simp only[qA,seval,Qa,h0,r]
theorem ayf(P Q R S:Int)(r:0≤P)(D:0≤Q)(F:0≤R)(H:0≤S):
  S+(Q+P/4294967296)/4294967296+((Q+P/4294967296)%4294967296+R)/4294967296=(S*18446744073709551616+(Q+R)*4294967296+P)/18446744073709551616:=by
 omega
theorem GK{a b A B:Int}(D:0≤a)(r:0≤b)(F:a≤A)(H:b≤B):0≤a*b∧a*b≤A*B:=
 ⟨Int.mul_nonneg D r,Int.mul_le_mul F H r yv⟩
theorem aaj(X Y:Nat)(hX:X≤1099511627776)(hY:Y≤1099511627776):ae pE 266 [.i .u64 (X:Int),.i .u64 (Y:Int)] []=some (.tup [.i .u64 ((X:Int)*Y/18446744073709551616),.i .u64 ((X:Int)*Y%18446744073709551616)],[]):=by
 obtain⟨x1,KB⟩: ∃x1,x1=(X:Int)/4294967296:=⟨_,rfl⟩
 obtain⟨x0,W⟩: ∃x0,x0=(X:Int)%4294967296:=⟨_,rfl⟩
 obtain⟨r,K7⟩: ∃r,r=(Y:Int)/4294967296:=⟨_,rfl⟩
 obtain⟨D,Z⟩: ∃D,D=(Y:Int)%4294967296:=⟨_,rfl⟩
 have hX':(X:Int)=x1*4294967296+x0:=yv
 have hY':(Y:Int)=r*4294967296+D:=yv
 have F:0≤x1∧x1≤256:=yv
 have H:0≤x0∧x0≤4294967295:=yv
 have I:0≤r∧r≤256:=yv
 have J:0≤D∧D≤4294967295:=yv
 have GW:(X:Int)*Y=x1*r*18446744073709551616+(x1*D+x0*r)*4294967296+x0*D:=by
  grind
 have N:=GK H.1 J.1 H.2 J.2
 have O:=GK F.1 J.1 F.2 J.2
 have U:=GK H.1 I.1 H.2 I.2
 have V:=GK F.1 I.1 F.2 I.2
 have w0:wr .u64 (x0*D)=x0*D:=mz ⟨N.1,Int.le_trans N.2 xW⟩
 have w1:wr .u64 (x1*D)=x1*D:=mz ⟨O.1,Int.le_trans O.2 xW⟩
 have w2:wr .u64 (x0*r)=x0*r:=mz ⟨U.1,Int.le_trans U.2 xW⟩
 have w3:wr .u64 (x1*r)=x1*r:=mz ⟨V.1,Int.le_trans V.2 xW⟩
 have K:=ayf (x0*D) (x1*D) (x0*r) (x1*r) N.1 O.1 U.1 V.1
 rw[←GW]at K
 have wlo:=GJ ((X:Int)*Y)
 rw[au ahy (by simp[Uo]),←K]
 generalize hP:x0*D=P at N w0
 generalize hQ:x1*D=Q at O w1
 generalize hR:x0*r=R at U w2
 generalize hS:x1*r=S at V w3
 have w4:wr .u64 (Q+P/4294967296)=Q+P/4294967296:=mz ⟨by omega,by omega⟩
 have w5:wr .u64 ((Q+P/4294967296)%4294967296+R)=(Q+P/4294967296)%4294967296+R:=mz ⟨by omega,by omega⟩
 have w6:wr .u64 (S+(Q+P/4294967296)/4294967296)=S+(Q+P/4294967296)/4294967296:=mz ⟨by omega,by omega⟩
 have w7:wr .u64 (S+(Q+P/4294967296)/4294967296+((Q+P/4294967296)%4294967296+R)/4294967296)=S+(Q+P/4294967296)/4294967296+((Q+P/4294967296)%4294967296+R)/4294967296:=mz ⟨by omega,by omega⟩
 simp only[qA,seval,Uo,adE,adF,←W,←KB,←Z,←K7,hP,hQ,hR,hS,w0,w1,w2,w3,w4,w5,w6,w7,wlo]
theorem GL{a:Int}(h:bd a):a.natAbs≤1099511627776:=by grind [bd]
theorem Pu(a b:Int):(a.natAbs:Int)*(b.natAbs:Int)=((a*b).natAbs:Int):=by rw[Int.natAbs_mul];omega
theorem Kp{a b:Int}(h:(a<0∧ ¬b<0)∨(¬a<0∧b<0)):a*b≤0:=by
 rcases h with⟨h1,h2⟩|⟨h1,h2⟩
 ·exact Int.mul_nonpos_of_nonpos_of_nonneg yv yv
 ·exact Int.mul_nonpos_of_nonneg_of_nonpos yv yv
theorem ED{a b:Int}(h:(a<0∧b<0)∨(¬a<0∧ ¬b<0)):0≤a*b:=by
 rcases h with⟨h1,h2⟩|⟨h1,h2⟩
 ·exact Int.mul_nonneg_of_nonpos_of_nonpos yv yv
 ·simp_all[Int.mul_nonneg]
theorem Pv{a b:Int}(N:bd a)(O:bd b):ae pE 227 [.i .i64 a,.i .i64 b] []=some (.i .i64 (bC (a*b)),[]):=by
 have h1:=Pt N
 have h2:=Pt O
 have h3:=aaj a.natAbs b.natAbs (GL N) (GL O)
 rw[Pu]at h3
 have hs:= @Kp a b
 have I:= @ED a b
 rw[au ag9 (by simp[rX])]
 generalize hx:a*b=x at*
 generalize U:(x.natAbs:Int)/18446744073709551616=q1 at h3
 generalize V:(x.natAbs:Int)%18446744073709551616=q2 at h3
 have H:(if q1≠0 then(1099511627776:Int)else if 1099511627776<q2 then 1099511627776 else q2)=min (x.natAbs:Int) 1099511627776:=by
  grind
 by_cases D:q1=0
 ·by_cases F:(1099511627776:Int)<q2
  ·rw[if_neg (by simp[D]),if_pos F]at H
   by_cases r:a<0
   ·by_cases s2:b<0
    ·have:=I (.inl ⟨r,s2⟩)
     have e:bC x=1099511627776:=by unfold bC;omega
     simp only[qA,seval,rX,h1,h2,h3,pz,py,D,F,r,s2,kP,e];rfl
    ·have:=hs (.inl ⟨r,s2⟩)
     have e:bC x= -1099511627776:=by unfold bC;omega
     simp only[qA,seval,rX,h1,h2,h3,pz,py,D,F,r,s2,kP,e];rfl
   ·by_cases s2:b<0
    ·have:=hs (.inr ⟨r,s2⟩)
     have e:bC x= -1099511627776:=by unfold bC;omega
     simp only[qA,seval,rX,h1,h2,h3,pz,py,D,F,r,s2,kP,e];rfl
    ·have:=I (.inr ⟨r,s2⟩)
     have e:bC x=1099511627776:=by unfold bC;omega
     simp only[qA,seval,rX,h1,h2,h3,pz,py,D,F,r,s2,kP,e];rfl
  ·rw[if_neg (by simp[D]),if_neg F]at H
   have J:wr .i64 q2=q2:=bj ⟨by omega,by omega⟩
   have K:wr .i64 (0-q2)= -q2:=by rw[bj ⟨by omega,by omega⟩];omega
   by_cases r:a<0
   ·by_cases s2:b<0
    ·have:=I (.inl ⟨r,s2⟩)
     have e:bC x=q2:=by unfold bC;omega
     simp only[qA,seval,rX,h1,h2,h3,pz,py,D,F,r,s2,kP,J,K,e];rfl
    ·have:=hs (.inl ⟨r,s2⟩)
     have e:bC x= -q2:=by unfold bC;omega
     simp only[qA,seval,rX,h1,h2,h3,pz,py,D,F,r,s2,kP,J,K,e];rfl
   ·by_cases s2:b<0
    ·have:=hs (.inr ⟨r,s2⟩)
     have e:bC x= -q2:=by unfold bC;omega
     simp only[qA,seval,rX,h1,h2,h3,pz,py,D,F,r,s2,kP,J,K,e];rfl
    ·have:=I (.inr ⟨r,s2⟩)
     have e:bC x=q2:=by unfold bC;omega
     simp only[qA,seval,rX,h1,h2,h3,pz,py,D,F,r,s2,kP,J,K,e];rfl
 ·rw[if_pos D]at H
  by_cases r:a<0
  ·by_cases s2:b<0
   ·have:=I (.inl ⟨r,s2⟩)
    have e:bC x=1099511627776:=by unfold bC;omega
    simp only[qA,seval,rX,h1,h2,h3,pz,py,D,r,s2,kP,e];rfl
   ·have:=hs (.inl ⟨r,s2⟩)
    have e:bC x= -1099511627776:=by unfold bC;omega
    simp only[qA,seval,rX,h1,h2,h3,pz,py,D,r,s2,kP,e];rfl
  ·by_cases s2:b<0
   ·have:=hs (.inr ⟨r,s2⟩)
    have e:bC x= -1099511627776:=by unfold bC;omega
    simp only[qA,seval,rX,h1,h2,h3,pz,py,D,r,s2,kP,e];rfl
   ·have:=I (.inr ⟨r,s2⟩)
    have e:bC x=1099511627776:=by unfold bC;omega
    simp only[qA,seval,rX,h1,h2,h3,pz,py,D,r,s2,kP,e];rfl
theorem Kq{a b:Int}(h:b≠0):Ev.bin .quo (.i .u64 a) (.i .u64 b)=some (.i .u64 (wr .u64 (a.tdiv b))):=by
 simp only[Ev.bin,if_true,l8,if_neg h]
theorem aak{a b:Int}(h:b≠0):Ev.bin .rem (.i .u64 a) (.i .u64 b)=some (.i .u64 (a.tmod b)):=by
 simp only[Ev.bin,if_true,l8,if_neg h]
theorem aal{a b:Int}(h:b≠0):Ev.bin .quo (.i .i64 a) (.i .i64 b)=some (.i .i64 (wr .i64 (a.tdiv b))):=by
 simp only[Ev.bin,if_true,l8,if_neg h]
theorem aam{a b:Int}(h:b≠0):Ev.bin .rem (.i .i64 a) (.i .i64 b)=some (.i .i64 (a.tmod b)):=by
 simp only[Ev.bin,if_true,l8,if_neg h]
theorem ann(x y:Nat)(r:0<y):((x:Int)≤(1099511627776:Int).tdiv (y:Int))↔(x:Int)*y≤1099511627776:=by
 have e:(1099511627776:Int).tdiv (y:Int)=((1099511627776/y:Nat):Int):=rfl
 rw[e]
 have:=Nat.le_div_iff_mul_le r (x:=x) (y:=1099511627776)
 have h2:(x:Int)*y=((x*y:Nat):Int):=xv
 rw[h2];omega
theorem afq{a b:Int}(J:bd a)(K:bd b):ae pE 181 [.i .i64 a,.i .i64 b] []=some (.i .i64 (bC (a*b)),[]):=by
 have h1:=zL J
 have h2:=zL K
 have hs:= @Kp a b
 have N:= @ED a b
 have r:=Pu a b
 rw[au U5 (by simp[KX])]
 by_cases a0:a=0
 ·subst a0
  simp only[qA,seval,KX,Int.zero_mul];rfl
 by_cases I:b=0
 ·subst I
  simp only[qA,seval,KX,Int.mul_zero,a0];rfl
 have D:=ann a.natAbs b.natAbs yv
 have F:((b.natAbs:Nat):Int)≠0:=yv
 have H:Ev.bin .quo (.i .u64 1099511627776) (.i .u64 (b.natAbs:Int))=some (.i .u64 ((1099511627776:Int).tdiv (b.natAbs:Int))):=by
  rw[Kq F]
  have e:(1099511627776:Int).tdiv (b.natAbs:Int)=((1099511627776/b.natAbs:Nat):Int):=rfl
  rw[e,mz ⟨Int.natCast_nonneg _,Int.le_trans (Int.ofNat_le.2 (Nat.div_le_self _ _)) xW⟩]
 rw[r]at D
 generalize (1099511627776:Int).tdiv (b.natAbs:Int)=q at D H
 generalize hx:a*b=x at*
 have O:x.natAbs≤1099511627776→wr .u64 (x.natAbs:Int)=(x.natAbs:Int):=fun h=>mz ⟨by omega,by omega⟩
 have U:x.natAbs≤1099511627776→wr .i64 (x.natAbs:Int)=(x.natAbs:Int):=fun h=>bj ⟨by omega,by omega⟩
 have V:x.natAbs≤1099511627776→wr .i64 (0-(x.natAbs:Int))= -(x.natAbs:Int):=fun h=>by rw[bj ⟨by omega,by omega⟩];omega
 simp only[qB,seval,KX,h1,h2,ahn,a0,I,H,r,kP]
 clear h1 h2 H
 unfold bC
 grind (splits:=30)
end Go.Proofs.YtnkgnjecmfkcfaaGreat
