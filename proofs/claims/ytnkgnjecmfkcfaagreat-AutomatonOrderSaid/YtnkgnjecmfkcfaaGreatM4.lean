/- Walks of functions of the program and of the reference, and their plain laws, part 4. Conditions: the theorems' own. -/
import Derived.Test.YtnkgnjecmfkcfaaGreatGS
import Derived.Test.YtnkgnjecmfkcfaaGreatM1
import Derived.Test.YtnkgnjecmfkcfaaGreatM2
import Derived.Test.YtnkgnjecmfkcfaaGreatM3
import Derived.KernelRfl
set_option maxRecDepth 100000
set_option linter.unusedSimpArgs false
set_option linter.unusedVariables false
set_option maxHeartbeats 16000000
namespace Go.Proofs.YtnkgnjecmfkcfaaGreat
open Go Go.Ev
theorem Y8{k:Nat}(h:k≤1000000):wr .i64 ((k:Int)+1)=((k+1:Nat):Int):=aG (Nat.lt_of_le_of_lt h zz)
def iP:Nat:=1000000
theorem gk{k:Nat}(h:k≤100000):k≤iP:=Nat.le_trans h zz
theorem ba{k:Nat}(h:k≤iP):wr .i64 ((k:Int)+1)=((k+1:Nat):Int):=Y8 h
def fX:Nat:=1125899906842624
theorem Y9{k:Nat}(h:k≤fX):wr .i64 ((k:Int)+1)=((k+1:Nat):Int):=aG (Nat.lt_of_le_of_lt h zz)
theorem Rr{xs:List Ex}{k:Nat}(hk:k<xs.length):xs.drop k=xs[k]::xs.drop (k+1):=List.drop_eq_getElem_cons hk
theorem vz{op:Int}(h1:1≤op)(h2:op≤22):op=1∨op=2∨op=3∨op=4∨op=5∨op=6∨op=7∨op=8∨op=9∨op=10∨op=11∨op=12∨op=13∨op=14∨op=15∨op=16∨op=17∨op=18∨op=19∨op=20∨op=21∨op=22:=zZ
theorem Za{x:Ex}(r:bJ x=0):x.nodes≤200:=by
 unfold bJ at r
 by_cases h:big x
 ·rw[if_pos h]at r;cases r
 ·unfold big at h;omega
theorem nQ{z:Nat}{fr:Fr}{lh:aE ah}{sh:List ah}(x:Ex)(cs:List T)(hx:gr x cs)(D:0≤x.nodes)(hs:x.sm):br pE (ae pE) z ⟨fr,lh,sh⟩ 215 [.agg cs]=some (.i .i64 (bJ x),⟨fr,lh,sh⟩):=by
 obtain⟨s,h⟩:=pvB x hs
 rw[←show cs=fw x from hx]at h
 obtain⟨a,F,rfl,r,RW⟩:=hx.cells
 rw[agk (by simp[H7,uG,EF,r.froz1]),h];rfl
theorem rq(x:Ex)(cs:List T)(hx:gr x cs)(hs:x.sm):ae pE 175 [.agg cs] []=some (.i .i64 (bJ x),[]):=by
 rw[show cs=fw x from hx]
 exact rvB x hs
theorem dR(l:List Int):(ints l).length=l.length:=by simp[ints]
theorem ll(l:List Int)(k:Nat)(hk:k<l.length):(ints l).drop k=T.i .i64 l[k]::(ints l).drop (k+1):=by
 rw[List.drop_eq_getElem_cons (by rw[dR];exact hk)];simp[ints]
theorem Bg{a:T}{ts:List Int}(r:IsSl a ts.length (ints ts)){k:Nat}(hk:k<ts.length)(kk:IntKind):iaV a (.i kk (k:Int)) 1=some (.vp (T.i .i64 ts[k]::(ints ts).drop (k+1))):=by
 rw[r.ia (sz:=1) (by rw[dR];omega) hk,Nat.mul_one,ll ts k hk]
theorem Rs{ts:List Int}{k:Nat}{t:Int}(hk:k<ts.length):iv (ts.drop k) t=(decide (ts[k]=t)&&iv (ts.drop (k+1)) t):=by
 unfold iv;rw[List.drop_eq_getElem_cons hk,List.all_cons]
theorem axY(ts:List Int)(t:Int)(a:T)(K:IsSl a ts.length (ints ts))(hlen:ts.length≤iP)(o:Out)(N:o=if iv ts t then .ext 0 else .ret)(fr:Fr)(lh:aE ah)(sh:List ah)
  (h1:aa fr 1= .i .i64 t) (F:aa fr 7=a) (D:aa fr 8= .i .i64 (ts.length:Int)) (H:aa fr 9= .i .i64 0):
  uL 17 lW fr lh sh o∧
  ((iv ts t=false→aa (pz pE 17 lW fr lh sh) 4= .b false)∧iu pE 17 lW fr lh sh=lh∧jw pE 17 lW fr lh sh=sh):=by
 refine cj (P:=fun fr aU O=>(iv ts t=false→aa fr 4= .b false)∧aU=lh∧O=sh) (cU (fun k st=> ∃(fr:Fr),st=⟨fr,lh,sh⟩∧aa fr 1= .i .i64 t∧aa fr 7=a∧aa fr 8= .i .i64 (ts.length:Int)∧aa fr 9= .i .i64 (k:Int)∧iv ts t=iv (ts.drop k) t) _ ts.length ?_ ?_ 0 _ (Nat.zero_le _) ⟨fr,rfl,h1,F,D,H,rfl⟩)
 ·rintro k _ hk ⟨fr,rfl,h1,F,D,H,r⟩
  have I:(k:Int)<ts.length:=zZ
  have R:=ba (k:=k) zZ
  rw[Rs hk]at r
  by_cases J:ts[k]=t
  ·left
   rw[decide_eq_true J,Bool.true_and]at r
   simp only[qA,seval,lW,h1,F,D,H,I,Bg K hk,R,J]
   refine⟨_,rfl,_,rfl, ?_, ?_, ?_, ?_,r⟩ <;> simp only[qA,seval,h1,F,D]
  ·right
   rw[decide_eq_false J,Bool.false_and]at r
   simp only[qA,seval,lW,h1,F,D,H,I,Bg K hk,J]
   refine⟨_,_,aaz,rfl,by rw[N,r];rfl,fun _=>by simp only[qA,seval],rfl,rfl⟩
 ·rintro _ ⟨fr,rfl,h1,F,D,H,r⟩
  rw[List.drop_length]at r
  have r:iv ts t=true:=r
  simp only[qA,seval,lW,D,H,Int.lt_irrefl]
  exact⟨_,_,sy,rfl,by rw[N,r];rfl,fun hc=>(by rw[r]at hc;cases hc),rfl,rfl⟩
theorem OB(ts:List Int)(t:Int)(a:T)(r:IsSl a ts.length (ints ts))(hlen:ts.length≤iP):ae pE 309 [a,.i .i64 t] []=some (.b (iv ts t),[]):=by
 have D:=fun fr lh sh=>axY ts t a r hlen _ rfl fr lh sh
 rw[av agX (by simp[Tx])]
 cases h:iv ts t <;> simp only[h]at D <;> simp only[qA,seval,Tx,r.lenI,D]
theorem DN(k:Int):ae pE 308 [.i .i64 k] []=some (.b (decide (k=1∨k=2)),[]):=by
 rw[av Ul (by simp[Pw])]
 by_cases h1:k=1
 ·simp only[qA,seval,Pw,h1,true_or]
 ·by_cases h2:k=2 <;> simp only[qA,seval,Pw,h1,h2,or_true,or_self]
theorem Bs(op a b:Int):ae pE 310 [.i .i64 op,.i .i64 a,.i .i64 b] []=some (.i .i64 (Ix op a b),[]):=by
 rw[av Um (by simp[wx])]
 unfold Ix
 by_cases a1:a=1
 ·subst a1
  by_cases r:b=1
  ·simp only[qA,seval,wx,r]
  ·by_cases D:op=10
   ·by_cases H:b=2 <;> simp only[qA,seval,wx,r,H,D]
   ·by_cases F:op=11 <;> simp only[qA,seval,wx,r,D,F]
 ·by_cases a2:a=2
  ·subst a2
   by_cases r:b=1
   ·simp only[qA,seval,wx,r]
   ·by_cases D:op=10
    ·simp only[qA,seval,wx,r,D]
    ·by_cases F:op=11
     ·by_cases H:b=2 <;> simp only[qA,seval,wx,r,H,F]
     ·simp only[qA,seval,wx,r,D,F]
  ·by_cases D:op=10
   ·simp only[qA,seval,wx,a1,a2,D]
   ·by_cases F:op=11 <;> simp only[qA,seval,wx,a1,a2,D,F]
theorem nR{a:T}{t:Int}{ts:List Int}(r:IsSl a (t::ts).length (ints (t::ts))): ∃ex,a= .sl (.i .i64 t::ints ts) (ts.length+1) ex:=by
 rcases r with⟨_,h,_⟩|⟨ex,h⟩
 ·simp at h
 ·exact⟨ex,h⟩
theorem Mf{ts:List Int}(h:ts.length=1): ∃a,ts= [a]:=by
 match ts,h with
 | [a],_=>grind
theorem nS{ts:List Int}(h:ts.length=2): ∃a b,ts= [a,b]:=by
 match ts,h with
 | [a,b],_=>grind
theorem Mg{ts:List Int}(h:ts.length=3): ∃a b c,ts= [a,b,c]:=by
 match ts,h with
 | [a,b,c],_=>grind
theorem nU(t:Int)(ts:List Int)(k:Int):iv (t::ts) k=(decide (t=k)&&iv ts k):=rfl
theorem Zb(t:Int)(ts:List Int):(if iv (t::ts) 1 then(1:Int)else if iv (t::ts) 2 then 2 else 0)=if(t=1∨t=2)∧iv (t::ts) t=true then t else 0:=by
 rw[nU,nU,nU,decide_eq_true (p:=t=t) rfl,Bool.true_and]
 grind
theorem nV(op k:Int)(ts:List Int)(a:T)(r:IsSl a ts.length (ints ts))(hl:ts.length≤iP)(h:op=15∧k=3∨(op=19∨op=20∨op=21∨op=22)∧k=4):ae pE 311 [.i .i64 op,a] []=some (.b (iv ts k),[]):=by
 have h1:=OB ts k a r hl
 rw[av MM (by simp[BN])]
 rcases h with⟨rfl,rfl⟩|⟨rfl|rfl|rfl|rfl,rfl⟩ <;> simp only[qA,seval,BN,h1,agY,r.froz]
theorem DO(op x y:Int)(a:T)(D:IsSl a 2 (ints [x,y]))(h:op=16∨op=17):ae pE 311 [.i .i64 op,a] []=some (.b (decide ((x=1∨x=2)∧x=y)),[]):=by
 obtain⟨ex,rfl⟩:=nR (ts:= [y]) D
 have r:=DN x
 rw[av MM (by simp[BN])]
 by_cases hx:x=1∨x=2
 ·rw[decide_eq_true hx]at r
  rcases h with rfl|rfl <;> simp only[qA,seval,cT,bj,aH,BN,r,ML,agW,ints,hx]
 ·rw[decide_eq_false hx]at r
  rcases h with rfl|rfl <;> simp only[qA,seval,cT,bj,BN,r,ML,agW,ints,hx]
theorem Zc(x y:Int)(a:T)(r:IsSl a 2 (ints [x,y])):ae pE 311 [.i .i64 18,a] []=some (.b (decide (x=y)),[]):=by
 obtain⟨ex,rfl⟩:=nR (ts:= [y]) r
 rw[av MM (by simp[BN])]
 simp only[qA,seval,cT,bj,BN,ints]
theorem Mh(op:Int)(ts:List Int)(a:T)(r:IsSl a ts.length (ints ts))(hl:ts.length≤iP)(h1:1≤op)(h2:op≤22)(h6:op≠6)(D:dB op ts.length=true):ae pE 289 [.i .i64 op,a] []=some (.i .i64 (lI op ts),[]):=by
 rw[av agS (by simp[mV])]
 have FA: ∀t F,ts=t::F→(op=7∨op=8∨op=9∨op=12∨op=13)→uF mV.res mV.eff (DC pE mV.n mV.code ⟨kF [.i .i64 op,a],.nil,[]⟩)=some (.i .i64 (if(t=1∨t=2)∧iv ts t=true then t else 0),[]):=by
  rintro t F rfl H
  have K:=OB (t::F) t a r hl
  have I:=DN t
  obtain⟨ex,rfl⟩:=nR r
  have N:0<F.length+1:=Nat.succ_pos _
  by_cases hx:t=1∨t=2
  ·rw[decide_eq_true hx]at I
   cases hk:iv (t::F) t <;> rw[hk]at K <;> rcases H with rfl|rfl|rfl|rfl|rfl <;>
    simp only[qA,seval,cT,mV,I,ML,K,agY,hx,N]
  ·rw[decide_eq_false hx]at I
   rcases H with rfl|rfl|rfl|rfl|rfl <;> simp only[qA,seval,cT,mV,I,ML,hx,N]
 have JO: ∀b:Bool,ae pE 311 [.i .i64 op,a] []=some (.b b,[])→(op=15∨op=16∨op=17∨op=18∨op=19∨op=20∨op=21∨op=22)→uF mV.res mV.eff (DC pE mV.n mV.code ⟨kF [.i .i64 op,a],.nil,[]⟩)=some (.i .i64 (if b=true then 4 else 0),[]):=by
  intro b O H
  cases b <;> rcases H with rfl|rfl|rfl|rfl|rfl|rfl|rfl|rfl <;> simp only[qA,seval,mV,O,auD,r.froz]
 rcases vz h1 h2 with rfl|rfl|rfl|rfl|rfl|rfl|rfl|rfl|rfl|rfl|rfl|rfl|rfl|rfl|rfl|rfl|rfl|rfl|rfl|rfl|rfl|rfl
 iterate 5 ·simp only[qA,seval,mV,lI]
 ·grind
 ·obtain⟨x,rfl⟩:=Mf (by simpa[dB]using D)
  rw[FA x [] rfl zP,←Zb];rfl
 ·obtain⟨x,y,rfl⟩:=nS (by simpa[dB]using D)
  rw[FA x [y] rfl zP,←Zb];rfl
 ·obtain⟨x,y,rfl⟩:=nS (by simpa[dB]using D)
  rw[FA x [y] rfl zP,←Zb];rfl
 ·obtain⟨x,y,rfl⟩:=nS (by simpa[dB]using D)
  obtain⟨ex,rfl⟩:=nR r
  have J:=Bs 10 x y
  simp only[qA,seval,cT,bj,aH,mV,ints,J,agZ,ag0];rfl
 ·obtain⟨x,y,rfl⟩:=nS (by simpa[dB]using D)
  obtain⟨ex,rfl⟩:=nR r
  have J:=Bs 11 x y
  simp only[qA,seval,cT,bj,aH,mV,ints,J,agZ,ag0];rfl
 ·match ts,D with
  |x::ts,_=>rw[FA x ts rfl zP,←Zb];rfl
 ·match ts,D with
  |x::ts,_=>rw[FA x ts rfl zP,←Zb];rfl
 ·obtain⟨x,y,z,rfl⟩:=Mg (by simpa[dB]using D)
  obtain⟨ex,rfl⟩:=nR r
  have hr:lI 14 [x,y,z]=if x=4∧y=z then y else 0:=rfl
  rw[hr]
  by_cases hx:x=4
  ·by_cases R:y=z <;> simp only[qA,seval,cT,bj,aH,mV,ints,hx,R]
  ·simp only[qA,seval,cT,bj,aH,mV,ints,hx]
 ·exact JO _ (nV 15 3 ts a r hl zP) zP
 ·obtain⟨x,y,rfl⟩:=nS (by simpa[dB]using D)
  rw[JO _ (DO 16 x y a r zP) zP]
  have hr:lI 16 [x,y]=if(x=1∨x=2)∧x=y then 4 else 0:=rfl
  rw[hr];simp only[decide_eq_true_eq]
 ·obtain⟨x,y,rfl⟩:=nS (by simpa[dB]using D)
  rw[JO _ (DO 17 x y a r zP) zP]
  have hr:lI 17 [x,y]=if(x=1∨x=2)∧x=y then 4 else 0:=rfl
  rw[hr];simp only[decide_eq_true_eq]
 ·obtain⟨x,y,rfl⟩:=nS (by simpa[dB]using D)
  rw[JO _ (Zc x y a r) zP]
  have hr:lI 18 [x,y]=if x=y then 4 else 0:=rfl
  rw[hr];simp only[decide_eq_true_eq]
 ·exact JO _ (nV 19 4 ts a r hl zP) zP
 ·exact JO _ (nV 20 4 ts a r hl zP) zP
 ·exact JO _ (nV 21 4 ts a r hl zP) zP
 ·exact JO _ (nV 22 4 ts a r hl zP) zP
def cW:Cs→List T→Prop
 | [],cs=>cs= []
 |c::l,cs=> ∃ex r,cs=(T.s c.1::ex)++r∧gr c.2 ex∧cW l r
theorem cW.len: ∀{l:Cs} {cs:List T},cW l cs→cs.length=l.length*5
 | [],cs,h=>by grind [cW]
 |c::l,cs,h=>by
  rw[cW]at h
  obtain⟨ex,r,rfl,h1,h2⟩:=h
  rw[List.length_append,List.length_cons,h1.len,h2.len,List.length_cons];omega
theorem cW.drop: ∀{l:Cs} {cs:List T} (k:Nat) (hk:k<l.length),cW l cs→ ∃ex r,cs.drop (k*5)=(T.s l[k].1::ex)++r∧gr l[k].2 ex∧cW (l.drop (k+1)) r
 | [],cs,k,hk,h=>by simp at hk
 |x::xs,cs,0,hk,h=>by
  grind [cW]
 |x::xs,cs,k+1,hk,h=>by
  rw[cW]at h
  obtain⟨c,r,rfl,h1,h2⟩:=h
  obtain⟨D,F,e,h3,h4⟩:=cW.drop k (by simpa using hk) h2
  refine⟨D,F, ?_,h3,by simpa using h4⟩
  have:(k+1)*5=(T.s x.1::c).length+k*5:=by rw[List.length_cons,h1.len];omega
  grind [List.drop_append,Nat.add_sub_cancel_left,List.drop_eq_nil_of_le]
theorem cW.take: ∀{l:Cs} {cs:List T} (k:Nat),cW l cs→cW (l.take k) (cs.take (k*5))
 |l,cs,0,h=>by simp[cW]
 | [],cs,k+1,h=>by grind [cW]
 |x::xs,cs,k+1,h=>by
  rw[cW]at h
  obtain⟨c,r,rfl,h1,h2⟩:=h
  have:(k+1)*5=(T.s x.1::c).length+k*5:=by rw[List.length_cons,h1.len];omega
  rw[List.take_succ_cons,cW]
  refine⟨c,r.take (k*5), ?_,h1,cW.take k h2⟩
  grind [List.take_append,Nat.add_sub_cancel_left,List.take_of_length_le]
theorem fS{l:Cs}{a:T}{F:List T}(h1:IsSl a l.length F)(h2:cW l F)(k:Nat)(hk:k<l.length):
  ∃b D r,(∀kk,iaV a (.i kk (k:Int)) 5=some (.vp (.s l[k].1:: .i .i64 l[k].2.op:: .i .i64 l[k].2.num:: .s l[k].2.name::b::r)))∧IsSl b l[k].2.args.length D∧cw l[k].2.args D∧gr l[k].2 [.i .i64 l[k].2.op,.i .i64 l[k].2.num,.s l[k].2.name,b]:=by
 obtain⟨c,r,e,h3,h4⟩:=cW.drop k hk h2
 obtain⟨b,D,rfl,h5,h6⟩:=h3.cells
 refine⟨b,D,r,fun kk=> ?_,h5,h6,h3⟩
 rw[h1.ia (sz:=5) h2.len hk,e];rfl
theorem OC: ∀{l:Cs} {s:List Nat} {i:Nat},eU l s=some i→i<l.length
 | [],s,i,h=>by simp[eU]at h
 |c::cs,s,i,h=>by
  rw[eU]at h
  split at h
  ·grind
  ·cases r:eU cs s with
   |none=>simp[r]at h
   |some j=>
    simp[r]at h
    have:=OC r
    grind
theorem xb{l:Cs}{s:List Nat}: ∀(k:Nat),k≤l.length→(∀j (h:j<k) (hl:j<l.length),l[j].1≠s)→eU l s=(eU (l.drop k) s).map (· +k)
 |0,_,_=>by simp
 |k+1,hk,h=>by
  have:=xb (l:=l) k zZ fun j D hl=>h j zZ hl
  have r:k<l.length:=zZ
  rw[this,List.drop_eq_getElem_cons r,eU,if_neg (h k zZ r)]
  cases eU (l.drop (k+1)) s with
  |none=>rfl
  |some i=>simp;omega
theorem xc(l:Cs)(s:List Nat): ∀n,eU (l.take n) s=match eU l s with|some i=>if i<n then some i else none|none=>none:=by
 induction l with
 |nil=>intro n;simp[eU]
 |cons c l ih=>
  intro n
  cases n with
  |zero=>
   grind [eU]
  |succ n=>
   grind [eU,hi]
def Zd(l:Cs)(s:List Nat):Int:=match eU l s with|none=> -1|some i=>(i:Int)
theorem DE{l:Cs}{s:List Nat}{i:Nat}(h:eU l s=some i):Zd l s=(i:Int):=by unfold Zd;rw[h]
theorem Rt{l:Cs}{s:List Nat}(h:eU l s=none):Zd l s= -1:=by unfold Zd;rw[h]
theorem axZ(l:Cs)(s:List Nat)(a:T)(O:List T)(K:IsSl a l.length O)(hc:cW l O)(hs:l.length≤iP)(o:Out)(R:o=if eU l s=none then .ext 0 else .ret)(fr:Fr)(lh:aE ah)(sh:List ah)(h0:aa fr 0=a)(h1:aa fr 1= .s s)(h5:aa fr 5= .i .i64 0):
  uL 20 lS fr lh sh o∧
  ((∀i,eU l s=some i→aa (pz pE 20 lS fr lh sh) 4= .i .i64 (i:Int))∧iu pE 20 lS fr lh sh=lh∧jw pE 20 lS fr lh sh=sh):=by
 refine cj (P:=fun fr aU U=>(∀i,eU l s=some i→aa fr 4= .i .i64 (i:Int))∧aU=lh∧U=sh) (cU (fun k st=> ∃fr:Fr,st=⟨fr,lh,sh⟩∧aa fr 0=a∧aa fr 1= .s s∧aa fr 5= .i .i64 (k:Int)∧k≤l.length∧ ∀j (h:j<k) (hl:j<l.length),l[j].1≠s) _ l.length ?_ ?_ 0 _ (Nat.zero_le _) ⟨fr,rfl,h0,h1,h5,Nat.zero_le _,by simp⟩)
 ·rintro k _ hk ⟨fr,rfl,h0,h1,h5,D,N⟩
  have I:(k:Int)<l.length:=zZ
  have V:=ba (k:=k) zZ
  have F:=xb k D N
  rw[List.drop_eq_getElem_cons hk,eU]at F
  obtain⟨b,W,r,J,_,_,_⟩:=fS K hc k hk
  by_cases H:l[k].1=s
  ·right
   rw[if_pos H]at F
   simp only[Option.map_some,Nat.zero_add]at F
   simp only[qA,seval,lS,h0,h1,h5,K.lenI,I,J,H]
   refine⟨_,_,aaz,rfl,by rw[R,F];rfl,fun i hi=> ?_,rfl,rfl⟩
   rw[F]at hi
   cases hi
   simp only[qA,seval]
  ·left
   simp only[qA,seval,lS,h0,h1,h5,K.lenI,I,J,H,V]
   refine⟨_,rfl,_,rfl, ?_, ?_, ?_,by omega, ?_⟩
   all_goals first|(simp only[qA,seval,h0,h1];done)|skip
   grind
 ·rintro _ ⟨fr,rfl,h0,h1,h5,D,N⟩
  have F:=xb l.length D N
  rw[List.drop_length,eU]at F
  simp only[qA,seval,lS,h0,h5,K.lenI,Int.lt_irrefl]
  grind
theorem adP(l:Cs)(s:List Nat)(a:T)(F:List T)(H:IsSl a l.length F)(hc:cW l F)(hs:l.length≤iP):ae pE 106 [a,.s s] []=some (.i .i64 (Zd l s),[]):=by
 have r:=fun fr lh sh=>axZ l s a F H hc hs _ rfl fr lh sh
 rw[av afc (by simp[OT])]
 cases D:eU l s with
 |none=>
  rw[Rt D]
  simp only[D,if_true,reduceCtorEq,false_implies,implies_true,true_and]at r
  simp only[qA,seval,OT,r]
 |some i=>
  rw[DE D]
  simp only[D,reduceCtorEq,if_false,Option.some.injEq,forall_eq']at r
  simp only[qA,seval,OT,r]
def Mi(ts:List Int):Except Int (List Int)→Except Int (List Int)
 | .error e=> .error e
 | .ok us=> .ok (ts++us)
def amL:Except Int (List Int)→Out
 | .error _=> .ret
 | .ok _=> .ext 0
theorem Ze{cl:List Nat→Int×Int}{scope:Int}{xs:List Ex}{k:Nat}(hk:k<xs.length):ku cl scope (xs.drop k)=if(xs[k].ty cl scope).2≠0 then .error (xs[k].ty cl scope).2 else Mi [(xs[k].ty cl scope).1] (ku cl scope (xs.drop (k+1))):=by
 rw[Rr hk,ku]
 split
 ·rfl
 ·cases ku cl scope (xs.drop (k+1)) <;> rfl
theorem Rv(a b:List Int)(x:Except Int (List Int)):Mi a (Mi b x)=Mi (a++b) x:=by cases x <;> simp[Mi]
theorem vf{cl:List Nat→Int×Int}{scope:Int}: ∀{xs:List Ex} {ts:List Int},ku cl scope xs= .ok ts→ts.length=xs.length
 | [],ts,h=>by grind [ku]
 |x::xs,ts,h=>by
  rw[ku]at h
  split at h
  ·cases h
  ·cases hx:ku cl scope xs with
   |error e=>grind
   |ok us=>rw[hx]at h;cases h;simp[vf hx]
theorem XX{lh:aE ah}{sh:List ah}{v:T}{k n:Nat}{cs:List T}(h:bh lh v k 1 n cs)(r:n≤iP)(x:T)(ex:Bool):
  appW lh sh k 1 8 v (.sl [x] 1 ex)=some (nxV lh sh k 1 8 v (.sl [x] 1 ex),Qy lh sh k 1 8 v (.sl [x] 1 ex))∧bh (Qy lh sh k 1 8 v (.sl [x] 1 ex)) (nxV lh sh k 1 8 v (.sl [x] 1 ex)) k 1 (n+1) (cs++ [x])∧ ∀j,j≠k→ab (Qy lh sh k 1 8 v (.sl [x] 1 ex)) j=ab lh j:=
 bh.appW h (m:=0) (by rw[ED];rfl) rfl (by unfold roomy;unfold iP at r;omega)
section
variable(l:Cs)(tab:List (Int×Int))(lT kT eT:T)(cl:List T)(hl:IsSl lT l.length cl)(hcl:cW l cl)(hlen:l.length≤iP)(aEc:tab.length=l.length)(hk:IsSl kT tab.length (ints (tab.map (·.1))))(he:IsSl eT tab.length (ints (tab.map (·.2))))
include hl hk he
include hcl hlen aEc
end
theorem qq(l:Cs): ∀n,(iM l n).length=n
 |0=>rfl
 |n+1=>by rw[iM,List.length_append,qq l n];rfl
theorem xe(l:Cs){n:Nat}(h:n<l.length):iM l (n+1)=iM l n++ [EX (l.take n) (iM l n) l[n].2]:=by
 rw[iM];simp[List.getD_eq_getElem?_getD,List.getElem?_eq_getElem h]
def ZY(l:Cs):Prop:= ∀c∈l,0≤c.2.nodes∧c.2.sm
theorem Jg(a:List Int)(x:Int):ints (a++ [x])=ints a++ [.i .i64 x]:=by simp[ints]
section
variable(l:Cs)(lT:T)(cl:List T)(hl:IsSl lT l.length cl)(hcl:cW l cl)(hlen:l.length≤iP)(rZ:ZY l)
include hl hcl hlen rZ
end
theorem Bt{α:Type}: ∀(A R:List α) (j:Nat) (r:List α),splice (A++R) (A.length+j) r=A++splice R j r
 | [],R,j,r=>by simp
 |a::A,R,j,r=>by
  rw[List.cons_append,List.length_cons,show A.length+1+j=(A.length+j)+1 by omega,splice,Bt A R j r];rfl
theorem xV{α:Type}: ∀(z R r:List α),r.length=z.length→splice (z++R) 0 r=r++R
 | [],R,[],_=>by cases R <;> rfl
 |c::z,R,v::r,h=>by simp_all[List.cons_append,splice,xV]
theorem Bu{α:Type}(A z R r:List α)(k:Nat)(hk:A.length=k)(h:r.length=z.length):splice (A++(z++R)) k r=(A++r)++R:=by
 have:=Bt A (z++R) 0 r
 simp_all[Nat.add_zero,xV,List.append_assoc]
theorem xf{α:Type}(z:List α)(n:Nat):repl z (n+1)=z++repl z n:=rfl
theorem Bv{α:Type}(z:List α): ∀n,(repl z n).length=n*z.length
 |0=>by simp[repl]
 |n+1=>by rw[xf,List.length_append,Bv z n,Nat.succ_mul,Nat.add_comm]
def bA(l:Cs):Nat→List (List Nat×Nat)
 |0=> []
 |n+1=>match aM (bA l n) (l.getD n ([],.mk 0 0 [] [])).1 with
  |none=>bA l n++ [((l.getD n ([],.mk 0 0 [] [])).1,n)]
  |some _=>bA l n
theorem xg(l:Cs){n:Nat}(h:n<l.length):bA l (n+1)=match aM (bA l n) l[n].1 with
  |none=>bA l n++ [(l[n].1,n)]
  |some _=>bA l n:=by
 rw[bA];simp[List.getD_eq_getElem?_getD,List.getElem?_eq_getElem h]
theorem DP(s:List Nat)(c:List Nat×Ex): ∀l:Cs,eU (l++ [c]) s=match eU l s with|some i=>some i|none=>if c.1=s then some l.length else none
 | []=>by simp[eU]
 |d::l=>by
  rw[List.cons_append,eU,eU,DP s c l]
  grind
theorem rv(l:Cs)(s:List Nat): ∀n,n≤l.length→aM (bA l n) s=eU (l.take n) s
 |0,_=>by simp[bA,aM,eU]
 |n+1,h=>by
  have r:n<l.length:=zZ
  rw[xg l r,List.take_succ_eq_append_getElem r,DP]
  have ih:=rv l s n zZ
  have D:=rv l l[n].1 n zZ
  grind [ln,List.length_take,Nat.min_eq_left,hi]
def sK(s:List Nat):T:= .s s
def nK(n:Nat):T:= .i .i64 (n:Int)
def iV(n:Int):T:= .i .i64 n
theorem EZ(a b:List Nat):rD (.one .str) (sK a) (sK b)=some (decide (a=b)):=awi
theorem aeB(a b:Nat):rD (.one .int) (nK a) (nK b)=some (decide (a=b)):=by
 grind [nK,awj]
def ta(lT:T)(m:List (List Nat×Nat))(kn:List (Nat×Int)):List ah:=
 [⟨1,.map (m.map fun p=>sK p.1) (m.map fun p=>nK p.2) false⟩,⟨1,.map (kn.map fun p=>nK p.1) (kn.map fun p=>iV p.2) false⟩,⟨1,.cells [lT,.mp .S 0 1,.mp .S 1 1] 0 true⟩]
section
variable(lT:T)(m:List (List Nat×Nat))(kn:List (Nat×Int))
theorem ch0:aI (ta lT m kn) 0=⟨1,.map (m.map fun p=>sK p.1) (m.map fun p=>nK p.2) false⟩:=nr rfl
theorem ch1:aI (ta lT m kn) 1=⟨1,.map (kn.map fun p=>nK p.1) (kn.map fun p=>iV p.2) false⟩:=nr rfl
theorem ch2:aI (ta lT m kn) 2=⟨1,.cells [lT,.mp .S 0 1,.mp .S 1 1] 0 true⟩:=nr rfl
theorem aEe(r:List (List Nat×Nat)):bD (ta lT m kn) 0 ⟨1,.map (r.map fun p=>sK p.1) (r.map fun p=>nK p.2) false⟩=ta lT r kn:=nr rfl
theorem aEf(r:List (Nat×Int)):bD (ta lT m kn) 1 ⟨1,.map (r.map fun p=>nK p.1) (r.map fun p=>iV p.2) false⟩=ta lT m r:=nr rfl
theorem ax1:ta lT [] []= [⟨1,.map [] [] false⟩,⟨1,.map [] [] false⟩,⟨1,.cells [lT,.mp .S 0 1,.mp .S 1 1] 0 true⟩]:=nr rfl
end
def R7(r:Option Nat):T:=match r with|some v=> .tup [nK v,.b true]|none=> .tup [.i .i64 0,.b false]
theorem lkS(m:List (List Nat×Nat))(s:List Nat):iq (.one .str) (m.map fun p=>sK p.1) (m.map fun p=>nK p.2) (.s s) (.i .i64 0) true=some (R7 (aM m s)):=by
 have:=akJ (kT:=sK) (vT:=nK) EZ (fun _=>rfl) m s (.i .i64 0)
 rw[show(T.s s)=sK s from rfl,this];unfold R7;cases aM m s <;> rfl
section
variable(l:Cs)(lT:T)(cl:List T)(hl:IsSl lT l.length cl)(hcl:cW l cl)(hlen:l.length≤iP)
include hl hcl hlen
theorem aEg(fr:Fr)(lh:aE ah)(sh:List ah)(U:sh=ta lT [] [])
  (h3:aa fr 3= .ptr .S 2 1 0) (F:aa fr 13=lT) (D:aa fr 14= .i .i64 (l.length:Int)) (H:aa fr 15= .i .i64 0):
  uL 41 oh fr lh sh (.ext 0)∧
  (jw pE 41 oh fr lh sh=ta lT (bA l l.length) []):=by
 refine cj (P:=fun X aU V=>V=ta lT (bA l l.length) [])
  (cU (fun k st=> ∃(fr:Fr) (N:aE ah),st=⟨fr,N,ta lT (bA l k) []⟩∧aa fr 3= .ptr .S 2 1 0∧aa fr 13=lT∧aa fr 14= .i .i64 (l.length:Int)∧aa fr 15= .i .i64 (k:Int)) _ l.length ?_ ?_ 0 _ (Nat.zero_le _) ⟨fr,lh,by rw[U];rfl,h3,F,D,H⟩)
 ·rintro k _ hk ⟨fr,N,rfl,h3,F,D,H⟩
  left
  have J:(k:Int)<l.length:=zZ
  have R:=ba (k:=k) zZ
  obtain⟨b,Y,r,K,Z,te,hb⟩:=fS hl hcl k hk
  have I:=lkS (bA l k) l[k].1
  rw[xg l hk]
  cases O:aM (bA l k) l[k].1 with
  |some i=>
   rw[O]at I
   unfold R7 at I
   simp only[qA,seval,bj,aH,dn,oh,h3,F,D,H,J,K,R,ch2,ch0,bO,I]
   refine⟨_,rfl,_,_,rfl, ?_, ?_, ?_, ?_⟩ <;> simp only[qA,seval,h3,F,D]
  |none=>
   rw[O]at I
   unfold R7 at I
   have W:lq (.one .str) (.s l[k].1) (.i .i64 (k:Int)) ((bA l k).map fun p=>sK p.1) ((bA l k).map fun p=>nK p.2)=_:=uK (kT:=sK) (vT:=nK) EZ (bA l k) l[k].1 k O
   simp only[qA,seval,bj,aH,dn,oh,h3,F,D,H,J,K,R,ch2,ch0,bO,I,xM,W,aEe]
   refine⟨_,rfl,_,_,rfl, ?_, ?_, ?_, ?_⟩ <;> simp only[qA,seval,h3,F,D]
 ·rintro _ ⟨fr,N,rfl,h3,F,D,H⟩
  simp only[qA,seval,oh,D,H,Int.lt_irrefl]
  grind
theorem YZ:ae pE 131 [lT] []=some (.ptr .S 2 1 0,ta lT (bA l l.length) []):=by
 have r:=fun fr lh sh=>aEg l lT cl hl hcl hlen fr lh sh
 rw[ax1]at r
 rw[av TL (by simp[SC])]
 simp only[qA,seval,eS,dn,SC,O0,hl.lenI,hl.cells,hl.noTup,hl.kept1,r]
end
theorem JP(l:Cs)(n:Nat): ∀k,∃r,iM l (n+k)=iM l n++r
 |0=>⟨[],by simp⟩
 |k+1=>by
  obtain⟨r,h⟩:=JP l n k
  grind [Nat.add_assoc,iM]
theorem Bw(l:Cs){n i:Nat}(D:n≤l.length)(hi:i<n):(iM l n).getD i (0,6)=(iM l l.length).getD i (0,6):=by
 obtain⟨r,h⟩:=JP l n (l.length-n)
 grind [qq,hi]
def rR(l:Cs)(i:Nat):Int×Int:=(iM l l.length).getD i (0,6)
theorem F2(l:Cs){i:Nat}(hi:i<l.length):rR l i=EX (l.take i) (iM l i) l[i].2:=by
 unfold rR
 rw[←Bw l (n:=i+1) zZ zZ,xe l hi,List.getD_eq_getElem?_getD,List.getElem?_append_right (by rw[qq];omega),qq,Nat.sub_self]
 rfl
theorem amM{cl:List Nat→Int×Int}(hcl: ∀s,(cl s).2≠0→(cl s).1=0)(scope:Int)(x:Ex)(h:(x.ty cl scope).2≠0):(x.ty cl scope).1=0:=by
 grind [Ex.ty_eq]
theorem aeC(l:Cs)(tab:List (Int×Int))(h: ∀t∈tab,t.2≠0→t.1=0)(s:List Nat):(clk l tab s).2≠0→(clk l tab s).1=0:=by
 grind [clk]
theorem Bx(l:Cs): ∀n,∀t∈iM l n,t.2≠0→t.1=0
 |0=>by simp[iM]
 |n+1=>by
  intro t ht
  rw[iM]at ht
  rcases List.mem_append.1 ht with ht|ht
  ·exact Bx l n t ht
  ·rw[List.mem_singleton]at ht
   subst ht
   unfold EX
   split
   ·intro _;rfl
   ·exact amM (aeC _ _ (Bx l n)) _ _
section
variable(l:Cs)(lT:T)(cl:List T)(hl:IsSl lT l.length cl)(hcl:cW l cl)(hlen:l.length≤iP)(rZ:ZY l)
def vD(kn:List (Nat×Int)):Prop:= ∀i t,aM kn i=some t→i<l.length∧rR l i=(t,0)
def amN(j:Nat):Prop:= ∀kn,vD l kn→ ∃r,ae pE 132 [.ptr .S 2 1 0,.i .i64 (j:Int)] (ta lT (bA l l.length) kn)=some (.tup [.i .i64 (rR l j).1,.i .i64 (rR l j).2],ta lT (bA l l.length) r)∧vD l r∧ ∀i,j<i→aM r i=aM kn i
def DM(n:Nat):List Nat→Int×Int:=clk (l.take n) (iM l n)
def ax3(n:Nat)(scope:Int)(y:Ex):Prop:= ∀kn,vD l kn→ ∀cs:List T,gr y cs→y.nodes≤100000→y.wf=true→ ∃r,ae pE 260 [.ptr .S 2 1 0,.i .i64 scope,.i .i64 (n:Int),.agg cs] (ta lT (bA l l.length) kn)=some (.tup [.i .i64 (y.ty (DM l n) scope).1,.i .i64 (y.ty (DM l n) scope).2],ta lT (bA l l.length) r)∧vD l r∧ ∀i,n≤i→aM r i=aM kn i
include hl
theorem aEh(n:Nat)(scope:Int)(xs:List Ex)(ih: ∀y∈xs,ax3 l lT n scope y)(a:T)(cc:List T)(ha:IsSl a xs.length cc)(hx:cw xs cc)(hn:fO xs≤100000)(yI:EW xs=true)(kn:List (Nat×Int))(iY:vD l kn)(r:Except Int (List Int))(hr:r=ku (DM l n) scope xs)(o:Out)(ho:o=amL r)(g:Nat)(c7:ah)(fr:Fr)(lh:aE ah)(sh:List ah)(fB:sh=ta lT (bA l l.length) kn)
  (h0:aa fr 0= .ptr .S 2 1 0) (h1:aa fr 1= .i .i64 scope) (h2:aa fr 2= .i .i64 (n:Int)) (N:aa fr 14= .isl .L 57 g 0 xs.length 1) (GG:aa fr 59=a) (Ch:aa fr 60= .i .i64 (xs.length:Int)) (GH:aa fr 61= .i .i64 0) (JQ:ab lh 57=⟨g,.cells (repl [.i .i64 0] xs.length) 0 false⟩) (J:ab lh 7=c7):
  uL 89 iB fr lh sh o∧
  ((∀e,r= .error e→aa (pz pE 89 iB fr lh sh) 8= .i .i64 0∧aa (pz pE 89 iB fr lh sh) 9= .i .i64 e)∧(∀ts,r= .ok ts→ab (iu pE 89 iB fr lh sh) 57=⟨g,.cells (ints ts) 0 false⟩)∧
    ab (iu pE 89 iB fr lh sh) 7=c7∧ ∃I,jw pE 89 iB fr lh sh=ta lT (bA l l.length) I∧vD l I∧ ∀i,n≤i→aM I i=aM kn i):=by
 have _:=hl
 refine cj (P:=fun cK aU aX=>(∀e,r= .error e→aa cK 8= .i .i64 0∧aa cK 9= .i .i64 e)∧(∀ts,r= .ok ts→ab aU 57=⟨g,.cells (ints ts) 0 false⟩)∧ab aU 7=c7∧ ∃I,aX=ta lT (bA l l.length) I∧vD l I∧ ∀i,n≤i→aM I i=aM kn i)
  (cU (fun k st=> ∃(fr:Fr) (O:aE ah) (ts:List Int) (IL:List (Nat×Int)),st=⟨fr,O,ta lT (bA l l.length) IL⟩∧aa fr 0= .ptr .S 2 1 0∧aa fr 1= .i .i64 scope∧aa fr 2= .i .i64 (n:Int)∧aa fr 14= .isl .L 57 g 0 xs.length 1∧aa fr 59=a∧aa fr 60= .i .i64 (xs.length:Int)∧aa fr 61= .i .i64 (k:Int)∧ab O 7=c7∧
    ab O 57=⟨g,.cells (ints ts++repl [.i .i64 0] (xs.length-k)) 0 false⟩∧ts.length=k∧r=Mi ts (ku (DM l n) scope (xs.drop k))∧vD l IL∧ ∀i,n≤i→aM IL i=aM kn i) _ xs.length ?_ ?_ 0 _ (Nat.zero_le _) ⟨fr,lh,[],kn,by rw[fB],h0,h1,h2,N,GG,Ch,GH,J,by rw[JQ];rfl,rfl,by rw[hr,List.drop_zero];cases ku (DM l n) scope xs <;> rfl,iY,fun _ _=>rfl⟩)
 ·rintro k _ RV ⟨fr,O,ts,IL,rfl,h0,h1,h2,N,GG,Ch,GH,J,JQ,F,D,Mj,JR⟩
  have R:(k:Int)<xs.length:=zZ
  have UR:=fP xs
  have hyk:=lH (List.getElem_mem RV)
  have hw:=ba (k:=k) (gk zZ)
  obtain⟨b,cb,rr,U,eW,te,hb⟩:=mK ha hx k RV
  obtain⟨NC,K,V,LP⟩:=ih xs[k] (List.getElem_mem RV) IL Mj _ hb zZ (yz.1 yI _ (List.getElem_mem RV))
  rw[Ze RV]at D
  by_cases H:(xs[k].ty (DM l n) scope).2=0
  ·left
   rw[if_neg (by simp[H]),Rv]at D
   generalize xs[k].ty (DM l n) scope=q at K H D
   obtain⟨W,q2⟩:=q
   simp only at K H D
   subst H
   have Gr:(ints ts++repl [T.i .i64 0] (xs.length-k)).length=xs.length:=by rw[List.length_append,dR,Bv,F];simp;omega
   have X:splice (ints ts++repl [T.i .i64 0] (xs.length-k)) k [.i .i64 W]=ints (ts++ [W])++repl [T.i .i64 0] (xs.length-(k+1)):=by
    rw[show xs.length-k=(xs.length-(k+1))+1 by omega,xf,Bu (ints ts) [T.i .i64 0] _ [T.i .i64 W] k (by rw[dR];exact F) rfl,Jg]
   have Y:k+1≤xs.length:=zZ
   simp only[qA,seval,dn,iB,h0,h1,h2,N,GG,Ch,GH,JQ,R,U,hw,K,Uk,eW.kept1,RV,Gr,X,Y]
   refine⟨_,rfl,_,_,ts++ [W],NC,rfl, ?_, ?_, ?_, ?_, ?_, ?_, ?_, ?_, ?_,by simp[F],D,V,fun i hi=>by rw[LP i hi,JR i hi]⟩
   all_goals first|(simp only[qA,seval,h0,h1,h2,N,GG,Ch,J];done)|skip
  ·right
   rw[if_pos (by simp[H])]at D
   generalize xs[k].ty (DM l n) scope=q at K H D
   obtain⟨W,q2⟩:=q
   simp only at K H D
   simp only[qA,seval,dn,iB,h0,h1,h2,GG,Ch,GH,R,U,K,Uk,eW.kept1,H]
   refine⟨_,_,aaz,rfl,by rw[ho,D];rfl,fun e he=> ?_,fun t Z=>(by rw[D]at Z;cases Z),by simp only[qA,seval,J],NC,rfl,V,fun i hi=>by rw[LP i hi,JR i hi]⟩
   rw[D]at he
   cases he
   exact⟨by simp only[qA,seval],by simp only[qA,seval]⟩
 ·rintro _ ⟨fr,O,ts,IL,rfl,h0,h1,h2,N,GG,Ch,GH,J,JQ,F,D,Mj,JR⟩
  rw[List.drop_length,ku,Mi,List.append_nil]at D
  rw[Nat.sub_self,show repl [T.i .i64 0] 0= []from rfl,List.append_nil]at JQ
  simp only[qA,seval,iB,Ch,GH,Int.lt_irrefl]
  refine⟨_,_,sy,rfl,by rw[ho,D];rfl,fun e he=>(by rw[D]at he;cases he),fun t Z=> ?_,J,IL,rfl,Mj,JR⟩
  grind
include hcl hlen
theorem amP(n:Nat)(KG:n≤l.length)(hc: ∀j,j<n→amN l lT j)(scope:Int)(x:Ex):ax3 l lT n scope x:=by
 have _:=hlen
 have _:=hcl
 induction x using Ex.ind with
 |h x ih=>
  intro kn iY cs hx hn yI
  obtain⟨a,cc,rfl,Y,RW⟩:=hx.cells
  rw[av agJ (by simp[zy]),Ex.ty_eq]
  have hnd:=x.nodes_eq
  rw[Ex.wf_eq,Bool.and_eq_true]at yI
  obtain⟨yc,xZ⟩:=yI
  have ew:=Iv scope x.name
  have yp:=fP x.args
  have Rw:x.args.length≤iP:=gk zZ
  simp only[qg,Bool.and_eq_true,decide_eq_true_eq]at yc
  obtain⟨Z,aEj,eN,_,_⟩:=yc
  by_cases h6:x.op=6
  ·rw[if_pos h6]
   unfold qf at ew
   by_cases J:dt scope x.name=0
   ·rw[if_neg (by simp[J])]
    rw[if_pos J,J]at ew
    have K:=lkS (bA l l.length) x.name
    rw[rv l x.name l.length (Nat.le_refl _),List.take_length]at K
    have wE:DM l n x.name=match eU l x.name with|some i=>if i<n then rR l i else(0,6)|none=>(0,6):=by
     unfold DM clk
     rw[xc]
     cases hi:eU l x.name with
     |none=>rfl
     |some i=>
      simp only
      by_cases N:i<n
      ·rw[if_pos N,if_pos N];exact Bw l KG N
      ·grind
    rw[wE]
    cases hi:eU l x.name with
    |none=>
     rw[hi]at K
     unfold R7 at K
     simp only[qA,seval,zy,h6,ew,PC,ch2,ch0,bO,K]
     grind
    |some i=>
     rw[hi]at K
     rw[show R7 (some i)= .tup [.i .i64 (i:Int),.b true]from rfl]at K
     by_cases N:i<n
     ·obtain⟨r,aD,iU,aeE⟩:=hc i N kn iY
      have O:(i:Int)<n:=zZ
      simp only[N,if_true]
      simp only[qA,seval,dn,zy,h6,ew,PC,ch2,ch0,bO,K,O,aD,afw]
      grind
     ·have O: ¬(i:Int)<n:=zZ
      simp only[N,if_false]
      simp only[qA,seval,zy,h6,ew,PC,ch2,ch0,bO,K,O]
      grind
   ·rw[if_pos J]
    rw[if_neg J]at ew
    simp only[qA,seval,zy,h6,ew,PC]
    grind
  ·rw[if_neg h6]
   have U:=fun c7 fr lh sh F h0 h1 h2 H GG Ch GH JQ I=>aEh l lT cl hl n scope x.args (fun y hy=>ih y hy) a cc Y RW zZ xZ kn iY _ rfl _ rfl 1 c7 fr lh sh F h0 h1 h2 H GG Ch GH JQ I
   have R:x.args.length*8≤roomy∧x.args.length≤roomy:=by unfold iP at Rw;unfold roomy;omega
   have hS:=fun c7 fr lh sh F h0 h1 h2 H GG Ch GH JQ I=>(U c7 fr lh sh F h0 h1 h2 H GG Ch GH JQ I).2.2.2.2
   cases hr:ku (DM l n) scope x.args with
   |error e=>
    have D:=fun c7 fr lh sh F h0 h1 h2 H GG Ch GH JQ I=>And.intro (U c7 fr lh sh F h0 h1 h2 H GG Ch GH JQ I).1 ((U c7 fr lh sh F h0 h1 h2 H GG Ch GH JQ I).2.1 e hr)
    simp only[hr,amL]at D
    simp only[qA,seval,zy,h6,Y.lenI,R,D]
    generalize V:jw _ _ _ _ _ _=X
    obtain⟨r,e1,e2,e3⟩: ∃r,X=ta lT (bA l l.length) r∧vD l r∧ ∀i,n≤i→aM r i=aM kn i:=by
     rw[←V]
     refine hS _ _ _ _ rfl ?_ ?_ ?_ ?_ ?_ ?_ ?_ ?_ rfl <;> simp only[qA,seval]
    grind
   |ok ts=>
    have OD:=vf hr
    have D:=fun c7 fr lh sh F h0 h1 h2 H GG Ch GH JQ I=>And.intro (U c7 fr lh sh F h0 h1 h2 H GG Ch GH JQ I).1 (U c7 fr lh sh F h0 h1 h2 H GG Ch GH JQ I).2.2.2.1
    have hF:=fun c7 fr lh sh F h0 h1 h2 H GG Ch GH JQ I=>(U c7 fr lh sh F h0 h1 h2 H GG Ch GH JQ I).2.2.1 ts hr
    have lO:(ints ts).length=x.args.length:=by rw[dR,OD]
    have W:List.take x.args.length (ints ts)=ints ts:=List.take_of_length_le zZ
    simp only[hr,amL]at D
    have BU:=Mh x.op ts (.sl (ints ts) x.args.length false) (Or.inr ⟨false,by rw[OD]⟩) (by rw[OD];exact Rw) Z aEj h6 (by rw[OD];exact eN)
    by_cases J:lI x.op ts=0
    ·rw[J]at BU
     simp only[qA,seval,zy,CH,h6,Y.lenI,R,D ⟨1,.cells [.i .i64 x.op,.i .i64 x.num,.s x.name,a] 0 true⟩,hF ⟨1,.cells [.i .i64 x.op,.i .i64 x.num,.s x.name,a] 0 true⟩,BU,agT,J,lO,W]
     generalize V:jw _ _ _ _ _ _=X
     obtain⟨r,e1,e2,e3⟩: ∃r,X=ta lT (bA l l.length) r∧vD l r∧ ∀i,n≤i→aM r i=aM kn i:=by
      rw[←V]
      refine hS _ _ _ _ rfl ?_ ?_ ?_ ?_ ?_ ?_ ?_ ?_ rfl <;> simp only[qA,seval]
     grind
    ·simp only[qA,seval,zy,CH,h6,Y.lenI,R,D ⟨1,.cells [.i .i64 x.op,.i .i64 x.num,.s x.name,a] 0 true⟩,hF ⟨1,.cells [.i .i64 x.op,.i .i64 x.num,.s x.name,a] 0 true⟩,BU,agT,J,lO,W]
     generalize V:jw _ _ _ _ _ _=X
     obtain⟨r,e1,e2,e3⟩: ∃r,X=ta lT (bA l l.length) r∧vD l r∧ ∀i,n≤i→aM r i=aM kn i:=by
      rw[←V]
      refine hS _ _ _ _ rfl ?_ ?_ ?_ ?_ ?_ ?_ ?_ ?_ rfl <;> simp only[qA,seval]
     grind
end
theorem gz{x:Ex}(r:bJ x=0):x.wf=true:=by
 unfold bJ at r
 by_cases D:big x
 ·rw[if_pos D]at r;cases r
 ·rw[if_neg D]at r
  cases hx:x.wf with
  |true=>rfl
  |false=>rw[hx]at r;cases r
section
variable(l:Cs)(lT:T)(cl:List T)(hl:IsSl lT l.length cl)(hcl:cW l cl)(hlen:l.length≤iP)(rZ:ZY l)
include hl hcl hlen
def JM(n:Nat)(scope:Int)(x:Ex):Int×Int:=if bJ x≠0 then(0,bJ x)else x.ty (DM l n) scope
theorem Mb(n:Nat)(KG:n≤l.length)(hc: ∀j,j<n→amN l lT j)(scope:Int)(x:Ex)(cs:List T)(hx:gr x cs)(J:0≤x.nodes)(hs:x.sm)(kn:List (Nat×Int))(I:vD l kn):
  ∃F,ae pE 217 [.ptr .S 2 1 0,.i .i64 scope,.i .i64 (n:Int),.agg cs] (ta lT (bA l l.length) kn)=some (.tup [.i .i64 (JM l n scope x).1,.i .i64 (JM l n scope x).2],ta lT (bA l l.length) F)∧vD l F∧ ∀i,n≤i→aM F i=aM kn i:=by
 have r:=fun z fr lh sh=>nQ (z:=z) (fr:=fr) (lh:=lh) (sh:=sh) x cs hx J hs
 have H:=fun h=>amP l lT cl hl hcl hlen n KG hc scope x kn I cs hx h
 obtain⟨a,O,rfl,K,RW⟩:=hx.cells
 rw[av Ug (by simp[Po])]
 unfold JM
 by_cases D:bJ x=0
 ·rw[if_neg (by simp[D])]
  obtain⟨F,N,h2,h3⟩:=H (by have:=Za D;omega) (gz D)
  rw[D]at r
  simp only[qA,seval,dn,Po,r,N,Uk,K.kept1]
  exact⟨F,rfl,h2,h3⟩
 ·rw[if_pos D]
  generalize bJ x=e at r D ⊢
  simp only[qA,seval,Po,r,D]
  exact⟨kn,rfl,I,fun _ _=>rfl⟩
include rZ
theorem Mc: ∀j,j<l.length→amN l lT j:=by
 intro j
 induction j using Nat.strongRecOn with
 |ind j ih=>
  intro K kn R
  obtain⟨b,cb,r,N,U,te,X⟩:=fS hl hcl j K
  obtain⟨Y,Z8⟩:=rZ l[j] (List.getElem_mem K)
  obtain⟨H,I,V,F⟩:=Mb l lT cl hl hcl hlen j zZ (fun i hi=>ih i hi zZ) 0 l[j].2 _ X Y Z8 kn R
  have BW:rR l j=JM l j 0 l[j].2:=by rw[F2 l K];rfl
  rw[←BW]at I
  have D:(rR l j).2≠0→(rR l j).1=0:=by
   unfold rR
   rw[List.getD_eq_getElem?_getD,List.getElem?_eq_getElem (by rw[qq];exact K)]
   exact Bx l _ _ (List.getElem_mem _)
  have J:iq (.one .int) (kn.map fun p=>nK p.1) (kn.map fun p=>iV p.2) (.i .i64 (j:Int)) (.i .i64 0) true=_:=akJ (kT:=nK) (vT:=iV) aeB (fun _=>rfl) kn j (.i .i64 0)
  rw[av afv (by simp[Ko])]
  cases O:aM kn j with
  |some t=>
   obtain⟨_,Z⟩:=R j t O
   rw[O]at J
   simp only[show iV t= .i .i64 t from rfl]at J
   rw[Z]
   simp only[qA,seval,Ko,ch2,ch1,bO,J]
   exact⟨kn,rfl,R,fun _ _=>rfl⟩
  |none=>
   rw[O]at J
   generalize he:rR l j=q at I D ⊢
   obtain⟨W,q2⟩:=q
   simp only at I D ⊢
   by_cases h0:q2=0
   ·subst h0
    have yc:aM H j=none:=by rw[F j (Nat.le_refl _),O]
    have iI:lq (.one .int) (.i .i64 (j:Int)) (.i .i64 W) (H.map fun p=>nK p.1) (H.map fun p=>iV p.2)=_:=uK (kT:=nK) (vT:=iV) aeB H j W yc
    simp only[qA,seval,dn,Ko,ch2,ch1,bO,J,N,U.kept1,I,CQ,ahl,iI,aEf]
    refine⟨_,rfl, ?_, ?_⟩
    ·intro i t hi
     rw[ln]at hi
     cases B3:aM H i with
     |some u=>rw[B3]at hi;cases hi;exact V i _ B3
     |none=>
      rw[B3]at hi
      simp only at hi
      split at hi
      ·rename_i e;subst e;cases hi;exact⟨K,he⟩
      ·cases hi
    ·intro i hi
     rw[ln,F i zZ]
     cases aM kn i with
     |some u=>rfl
     |none=>simp only;rw[if_neg zZ]
   ·rw[D h0]
    rw[D h0]at I
    simp only[qA,seval,dn,Ko,ch2,ch1,bO,J,N,U.kept1,I,CQ,h0]
    exact⟨H,rfl,V,fun i hi=>F i zZ⟩
end
def bd(n:Int):Prop:= -1099511627776≤n∧n≤1099511627776
theorem kD{x y:Bool}:rD (.one .bool) (.b x) (.b y)=some (x==y):=rfl
theorem ry(n:Int):bd (bz n):=by unfold bd bz;omega
theorem DQ{n:Int}(h:bd n):bz n=n:=by unfold bd at h;unfold bz;omega
theorem DR(n:Int):(if(if n<1099511627776 then n else(1099511627776:Int))> -1099511627776 then(if n<1099511627776 then n else(1099511627776:Int))else-1099511627776)=bz n:=by
 unfold bz;split <;> split <;> omega
theorem xh(n:Int):ae pE 145 [.i .i64 n] []=some (.i .i64 (bz n),[]):=by
 rw[av afA (by simp[SD]),←DR]
 simp only[qA,seval,SD]
theorem Rx(n:Int):ae pE 179 [.i .i64 n] []=some (.i .i64 (bz n),[]):=by
 rw[av T6 (by simp[Kr]),←DR]
 simp only[qA,seval,Kr]
theorem Zf{a b:Int}(r:bd a)(D:bd b):wr .i64 (a+b)=a+b:=by unfold bd at *; exact bI ⟨by omega,by omega⟩
theorem F3{a:Int}(r:bd a):wr .i64 (0-a)= -a:=by unfold bd at *; rw[bI ⟨by omega,by omega⟩];omega
theorem tb{a:Int}(r:bd a):bd (-a):=by unfold bd at *; omega
theorem F4{a b:Int}(F:bd a)(H:bd b):ae pE 148 [.i .i64 a,.i .i64 b] []=some (.i .i64 (bz (a+b)),[]):=by
 have D:=Zf F H
 have hc:=xh (a+b)
 clear F H
 rw[av afB (by simp[Hn])]
 by_cases h1:0≤a
 ·have r: ¬a<0:=zZ
  by_cases h2:0≤b
  ·have h3: ¬a+b<0:=zZ
   simp only[qA,seval,Hn,D,hc,Hu,h1,r,h2,h3]
  ·simp only[qA,seval,Hn,D,hc,Hu,h1,r,h2]
 ·have r:a<0:=zZ
  by_cases h2:b<0
  ·have h3: ¬0≤a+b:=zZ
   simp only[qA,seval,Hn,D,hc,Hu,h1,r,h2,h3]
  ·simp only[qA,seval,Hn,D,hc,Hu,h1,r,h2]
theorem F5{a b:Int}(F:bd a)(H:bd b):ae pE 180 [.i .i64 a,.i .i64 b] []=some (.i .i64 (bz (a+b)),[]):=by
 have D:=Zf F H
 have hc:=Rx (a+b)
 clear F H
 rw[av T7 (by simp[D4])]
 by_cases h1:0<a
 ·have r: ¬a<0:=zZ
  by_cases h2:0<b
  ·have h3: ¬a+b<0:=zZ
   simp only[qA,seval,D4,D,hc,zE,h1,r,h2,h3]
  ·simp only[qA,seval,D4,D,hc,zE,h1,r,h2]
 ·by_cases r:a<0
  ·by_cases h2:b<0
   ·have h3: ¬0≤a+b:=zZ
    simp only[qA,seval,D4,D,hc,zE,h1,r,h2,h3]
   ·simp only[qA,seval,D4,D,hc,zE,h1,r,h2]
  ·simp only[qA,seval,D4,D,hc,zE,h1,r]
theorem Zg{a:Int}(h:bd a)(h0: ¬a<0):wr .u64 a=(a.natAbs:Int):=by unfold bd at h;rw[mc ⟨by omega,by omega⟩];omega
theorem ax6(n:Int):IntKind.wrap .u64 n=n%18446744073709551616:=by
 unfold IntKind.wrap
 have r:(IntKind.u64).bits=64:=rfl
 simp only[r]
 rw[if_neg (by simp[IntKind.signed])]
 rfl
theorem F6(n:Int):wr .u64 n=n%18446744073709551616:=by
 show(if(0:Int)≤n∧n≤18446744073709551615 then n else IntKind.wrap .u64 n)=_
 rw[ax6]
 split <;> omega
theorem OE{a:Int}(h:bd a)(h0:a<0):wr .u64 (0-wr .u64 a)=(a.natAbs:Int):=by
 unfold bd at h
 rw[F6,F6];omega
theorem OG{a:Int}(h:bd a):ae pE 267 [.i .i64 a] []=some (.i .u64 (a.natAbs:Int),[]):=by
 rw[av agL (by simp[Ps])]
 by_cases h0:a<0
 ·have r:=OE h h0
  simp only[qA,seval,Ps,h0,r]
 ·have r:=Zg h h0
  simp only[qA,seval,Ps,h0,r]
theorem yS{a:Int}(h:bd a):ae pE 244 [.i .i64 a] []=some (.i .u64 (a.natAbs:Int),[]):=by
 rw[av agB (by simp[Pr])]
 by_cases h0:a<0
 ·have r:=OE h h0
  simp only[qA,seval,Pr,h0,r]
 ·have r:=Zg h h0
  simp only[qA,seval,Pr,h0,r]
theorem ax7(P Q R S:Int)(r:0≤P)(D:0≤Q)(F:0≤R)(H:0≤S):
  S+(Q+P/4294967296)/4294967296+((Q+P/4294967296)%4294967296+R)/4294967296=(S*18446744073709551616+(Q+R)*4294967296+P)/18446744073709551616:=by
 omega
theorem F7{a b A B:Int}(D:0≤a)(r:0≤b)(F:a≤A)(H:b≤B):0≤a*b∧a*b≤A*B:=
 ⟨Int.mul_nonneg D r,Int.mul_le_mul F H r zZ⟩
theorem Zh(X Y:Nat)(hX:X≤1099511627776)(hY:Y≤1099511627776):ae pE 266 [.i .u64 (X:Int),.i .u64 (Y:Int)] []=some (.tup [.i .u64 ((X:Int)*Y/18446744073709551616),.i .u64 ((X:Int)*Y%18446744073709551616)],[]):=by
 obtain⟨x1,J7⟩: ∃x1,x1=(X:Int)/4294967296:=⟨_,rfl⟩
 obtain⟨x0,W⟩: ∃x0,x0=(X:Int)%4294967296:=⟨_,rfl⟩
 obtain⟨r,BS⟩: ∃r,r=(Y:Int)/4294967296:=⟨_,rfl⟩
 obtain⟨D,Z⟩: ∃D,D=(Y:Int)%4294967296:=⟨_,rfl⟩
 have hX':(X:Int)=x1*4294967296+x0:=zZ
 have hY':(Y:Int)=r*4294967296+D:=zZ
 have F:0≤x1∧x1≤256:=zZ
 have H:0≤x0∧x0≤4294967295:=zZ
 have I:0≤r∧r≤256:=zZ
 have J:0≤D∧D≤4294967295:=zZ
 have Gp:(X:Int)*Y=x1*r*18446744073709551616+(x1*D+x0*r)*4294967296+x0*D:=by
  grind
 have N:=F7 H.1 J.1 H.2 J.2
 have O:=F7 F.1 J.1 F.2 J.2
 have U:=F7 H.1 I.1 H.2 I.2
 have V:=F7 F.1 I.1 F.2 I.2
 have w0:wr .u64 (x0*D)=x0*D:=mc ⟨N.1,Int.le_trans N.2 zz⟩
 have w1:wr .u64 (x1*D)=x1*D:=mc ⟨O.1,Int.le_trans O.2 zz⟩
 have w2:wr .u64 (x0*r)=x0*r:=mc ⟨U.1,Int.le_trans U.2 zz⟩
 have w3:wr .u64 (x1*r)=x1*r:=mc ⟨V.1,Int.le_trans V.2 zz⟩
 have K:=ax7 (x0*D) (x1*D) (x0*r) (x1*r) N.1 O.1 U.1 V.1
 rw[←Gp]at K
 have wlo:=F6 ((X:Int)*Y)
 rw[av agK (by simp[Ts]),←K]
 generalize hP:x0*D=P at N w0
 generalize hQ:x1*D=Q at O w1
 generalize hR:x0*r=R at U w2
 generalize hS:x1*r=S at V w3
 have w4:wr .u64 (Q+P/4294967296)=Q+P/4294967296:=mc ⟨by omega,by omega⟩
 have w5:wr .u64 ((Q+P/4294967296)%4294967296+R)=(Q+P/4294967296)%4294967296+R:=mc ⟨by omega,by omega⟩
 have w6:wr .u64 (S+(Q+P/4294967296)/4294967296)=S+(Q+P/4294967296)/4294967296:=mc ⟨by omega,by omega⟩
 have w7:wr .u64 (S+(Q+P/4294967296)/4294967296+((Q+P/4294967296)%4294967296+R)/4294967296)=S+(Q+P/4294967296)/4294967296+((Q+P/4294967296)%4294967296+R)/4294967296:=mc ⟨by omega,by omega⟩
 simp only[qA,seval,Ts,ac4,ac5,←W,←J7,←Z,←BS,hP,hQ,hR,hS,w0,w1,w2,w3,w4,w5,w6,w7,wlo]
theorem F8{a:Int}(h:bd a):a.natAbs≤1099511627776:=by grind [bd]
theorem OH(a b:Int):(a.natAbs:Int)*(b.natAbs:Int)=((a*b).natAbs:Int):=by rw[Int.natAbs_mul];omega
theorem JS{a b:Int}(h:(a<0∧ ¬b<0)∨(¬a<0∧b<0)):a*b≤0:=by
 rcases h with⟨h1,h2⟩|⟨h1,h2⟩
 ·exact Int.mul_nonpos_of_nonpos_of_nonneg zZ zZ
 ·exact Int.mul_nonpos_of_nonneg_of_nonpos zZ zZ
theorem DS{a b:Int}(h:(a<0∧b<0)∨(¬a<0∧ ¬b<0)):0≤a*b:=by
 rcases h with⟨h1,h2⟩|⟨h1,h2⟩
 ·exact Int.mul_nonneg_of_nonpos_of_nonpos zZ zZ
 ·simp_all[Int.mul_nonneg]
theorem OI{a b:Int}(N:bd a)(O:bd b):ae pE 227 [.i .i64 a,.i .i64 b] []=some (.i .i64 (bz (a*b)),[]):=by
 have h1:=OG N
 have h2:=OG O
 have h3:=Zh a.natAbs b.natAbs (F8 N) (F8 O)
 rw[OH]at h3
 have hs:= @JS a b
 have I:= @DS a b
 rw[av agm (by simp[rz])]
 generalize hx:a*b=x at*
 generalize R:(x.natAbs:Int)/18446744073709551616=q1 at h3
 generalize PS:(x.natAbs:Int)%18446744073709551616=q2 at h3
 have H:(if q1≠0 then(1099511627776:Int)else if 1099511627776<q2 then 1099511627776 else q2)=min (x.natAbs:Int) 1099511627776:=by
  grind
 by_cases D:q1=0
 ·by_cases F:(1099511627776:Int)<q2
  ·rw[if_neg (by simp[D]),if_pos F]at H
   by_cases r:a<0
   ·by_cases s2:b<0
    ·have:=I (.inl ⟨r,s2⟩)
     have e:bz x=1099511627776:=by unfold bz;omega
     simp only[qA,seval,rz,h1,h2,h3,pf,pe,D,F,r,s2,kD,e];rfl
    ·have:=hs (.inl ⟨r,s2⟩)
     have e:bz x= -1099511627776:=by unfold bz;omega
     simp only[qA,seval,rz,h1,h2,h3,pf,pe,D,F,r,s2,kD,e];rfl
   ·by_cases s2:b<0
    ·have:=hs (.inr ⟨r,s2⟩)
     have e:bz x= -1099511627776:=by unfold bz;omega
     simp only[qA,seval,rz,h1,h2,h3,pf,pe,D,F,r,s2,kD,e];rfl
    ·have:=I (.inr ⟨r,s2⟩)
     have e:bz x=1099511627776:=by unfold bz;omega
     simp only[qA,seval,rz,h1,h2,h3,pf,pe,D,F,r,s2,kD,e];rfl
  ·rw[if_neg (by simp[D]),if_neg F]at H
   have J:wr .i64 q2=q2:=bI ⟨by omega,by omega⟩
   have K:wr .i64 (0-q2)= -q2:=by rw[bI ⟨by omega,by omega⟩];omega
   by_cases r:a<0
   ·by_cases s2:b<0
    ·have:=I (.inl ⟨r,s2⟩)
     have e:bz x=q2:=by unfold bz;omega
     simp only[qA,seval,rz,h1,h2,h3,pf,pe,D,F,r,s2,kD,J,K,e];rfl
    ·have:=hs (.inl ⟨r,s2⟩)
     have e:bz x= -q2:=by unfold bz;omega
     simp only[qA,seval,rz,h1,h2,h3,pf,pe,D,F,r,s2,kD,J,K,e];rfl
   ·by_cases s2:b<0
    ·have:=hs (.inr ⟨r,s2⟩)
     have e:bz x= -q2:=by unfold bz;omega
     simp only[qA,seval,rz,h1,h2,h3,pf,pe,D,F,r,s2,kD,J,K,e];rfl
    ·have:=I (.inr ⟨r,s2⟩)
     have e:bz x=q2:=by unfold bz;omega
     simp only[qA,seval,rz,h1,h2,h3,pf,pe,D,F,r,s2,kD,J,K,e];rfl
 ·rw[if_pos D]at H
  by_cases r:a<0
  ·by_cases s2:b<0
   ·have:=I (.inl ⟨r,s2⟩)
    have e:bz x=1099511627776:=by unfold bz;omega
    simp only[qA,seval,rz,h1,h2,h3,pf,pe,D,r,s2,kD,e];rfl
   ·have:=hs (.inl ⟨r,s2⟩)
    have e:bz x= -1099511627776:=by unfold bz;omega
    simp only[qA,seval,rz,h1,h2,h3,pf,pe,D,r,s2,kD,e];rfl
  ·by_cases s2:b<0
   ·have:=hs (.inr ⟨r,s2⟩)
    have e:bz x= -1099511627776:=by unfold bz;omega
    simp only[qA,seval,rz,h1,h2,h3,pf,pe,D,r,s2,kD,e];rfl
   ·have:=I (.inr ⟨r,s2⟩)
    have e:bz x=1099511627776:=by unfold bz;omega
    simp only[qA,seval,rz,h1,h2,h3,pf,pe,D,r,s2,kD,e];rfl
theorem JT{a b:Int}(h:b≠0):Ev.bin .quo (.i .u64 a) (.i .u64 b)=some (.i .u64 (wr .u64 (a.tdiv b))):=by
 simp only[Ev.bin,if_true,lR,if_neg h]
theorem Zi{a b:Int}(h:b≠0):Ev.bin .rem (.i .u64 a) (.i .u64 b)=some (.i .u64 (a.tmod b)):=by
 simp only[Ev.bin,if_true,lR,if_neg h]
theorem Zj{a b:Int}(h:b≠0):Ev.bin .quo (.i .i64 a) (.i .i64 b)=some (.i .i64 (wr .i64 (a.tdiv b))):=by
 simp only[Ev.bin,if_true,lR,if_neg h]
theorem Zk{a b:Int}(h:b≠0):Ev.bin .rem (.i .i64 a) (.i .i64 b)=some (.i .i64 (a.tmod b)):=by
 simp only[Ev.bin,if_true,lR,if_neg h]
theorem amR(x y:Nat)(r:0<y):((x:Int)≤(1099511627776:Int).tdiv (y:Int))↔(x:Int)*y≤1099511627776:=by
 have e:(1099511627776:Int).tdiv (y:Int)=((1099511627776/y:Nat):Int):=rfl
 rw[e]
 have:=Nat.le_div_iff_mul_le r (x:=x) (y:=1099511627776)
 have h2:(x:Int)*y=((x*y:Nat):Int):=zP
 rw[h2];omega
theorem aeG{a b:Int}(J:bd a)(K:bd b):ae pE 181 [.i .i64 a,.i .i64 b] []=some (.i .i64 (bz (a*b)),[]):=by
 have h1:=yS J
 have h2:=yS K
 have hs:= @JS a b
 have N:= @DS a b
 have r:=OH a b
 rw[av T8 (by simp[Ks])]
 by_cases a0:a=0
 ·subst a0
  simp only[qA,seval,Ks,Int.zero_mul];rfl
 by_cases I:b=0
 ·subst I
  simp only[qA,seval,Ks,Int.mul_zero,a0];rfl
 have D:=amR a.natAbs b.natAbs zZ
 have F:((b.natAbs:Nat):Int)≠0:=zZ
 have H:Ev.bin .quo (.i .u64 1099511627776) (.i .u64 (b.natAbs:Int))=some (.i .u64 ((1099511627776:Int).tdiv (b.natAbs:Int))):=by
  rw[JT F]
  have e:(1099511627776:Int).tdiv (b.natAbs:Int)=((1099511627776/b.natAbs:Nat):Int):=rfl
  rw[e,mc ⟨Int.natCast_nonneg _,Int.le_trans (Int.ofNat_le.2 (Nat.div_le_self _ _)) zz⟩]
 rw[r]at D
 generalize (1099511627776:Int).tdiv (b.natAbs:Int)=q at D H
 generalize hx:a*b=x at*
 have O:x.natAbs≤1099511627776→wr .u64 (x.natAbs:Int)=(x.natAbs:Int):=fun h=>mc ⟨by omega,by omega⟩
 have R:x.natAbs≤1099511627776→wr .i64 (x.natAbs:Int)=(x.natAbs:Int):=fun h=>bI ⟨by omega,by omega⟩
 have U:x.natAbs≤1099511627776→wr .i64 (0-(x.natAbs:Int))= -(x.natAbs:Int):=fun h=>by rw[bI ⟨by omega,by omega⟩];omega
 simp only[qB,seval,Ks,h1,h2,agC,a0,I,H,r,kD]
 clear h1 h2 H
 unfold bz
 grind (splits:=30)
theorem bq1:((true==true) != false)=true:=nr rfl
theorem bq2:((false==false) != false)=true:=nr rfl
theorem bq3:((true==false) != false)=false:=nr rfl
theorem bq4:((false==true) != false)=false:=nr rfl
theorem bq5:((true==true) != true)=false:=nr rfl
theorem bq6:((false==false) != true)=false:=nr rfl
theorem bq7:((true==false) != true)=true:=nr rfl
theorem bq8:((false==true) != true)=true:=nr rfl
theorem Ry{a b:Int}(r:b≠0)(h:(a<0∧b<0)∨(¬a<0∧ ¬b<0)):a.fdiv b=((a.natAbs/b.natAbs:Nat):Int):=by
 rcases h with⟨h1,h2⟩|⟨h1,h2⟩
 ·rw[←Int.neg_fdiv_neg,Int.fdiv_eq_ediv_of_nonneg _ zZ]
  have e1: -a=((a.natAbs:Nat):Int):=zZ
  have e2: -b=((b.natAbs:Nat):Int):=zZ
  rw[e1,e2];rfl
 ·rw[Int.fdiv_eq_ediv_of_nonneg _ zZ]
  have e1:a=((a.natAbs:Nat):Int):=zZ
  have e2:b=((b.natAbs:Nat):Int):=zZ
  conv=>lhs;rw[e1,e2]
  rfl
theorem JU(x y:Nat):(x:Int).fdiv (y:Int)=((x/y:Nat):Int):=by rw[Int.fdiv_eq_ediv_of_nonneg _ zZ];rfl
theorem yU(x y:Nat):((y:Int)∣(x:Int))↔x%y=0:=by rw[Int.natCast_dvd_natCast];exact Nat.dvd_iff_mod_eq_zero
def upN(x y:Nat):Nat:=x/y+if 0<x%y then 1 else 0
theorem Rz{a b:Int}(F:b≠0)(h:(a<0∧ ¬b<0)∨(¬a<0∧b<0)):a.fdiv b= -((upN a.natAbs b.natAbs:Nat):Int):=by
 unfold upN
 rcases h with⟨h1,h2⟩|⟨h1,h2⟩
 ·have e1:a= -((a.natAbs:Nat):Int):=zZ
  have e2:b=((b.natAbs:Nat):Int):=zZ
  have D:b.natAbs≠0:=zZ
  generalize a.natAbs=x,b.natAbs=y at*
  subst e1 e2
  rw[Int.neg_fdiv,JU]
  by_cases r:x%y=0
  ·rw[if_pos (Or.inr ((yU x y).2 r)),if_neg zZ];omega
  ·rw[if_neg (by rintro(h|h)
                 ·omega
                 ·exact r ((yU x y).1 h)),if_pos zZ];omega
 ·have e1:a=((a.natAbs:Nat):Int):=zZ
  have e2:b= -((b.natAbs:Nat):Int):=zZ
  have D:((b.natAbs:Nat):Int)≠0:=zZ
  generalize a.natAbs=x,b.natAbs=y at*
  subst e1 e2
  rw[Int.fdiv_neg D,JU]
  by_cases r:x%y=0
  ·rw[if_pos ((yU x y).2 r),if_neg zZ];omega
  ·rw[if_neg (fun h=>r ((yU x y).1 h)),if_pos zZ];omega
theorem Mk(a b:Int)(h:bd a):a.natAbs/b.natAbs≤1099511627776:=Nat.le_trans (Nat.div_le_self _ _) (F8 h)
theorem aeH{a b:Int}(N:bd a)(R:bd b):ae pE 182 [.i .i64 a,.i .i64 b] []=some (.i .i64 (Lo a b),[]):=by
 have h1:=yS N
 have h2:=yS R
 rw[av T9 (by simp[Pe])]
 unfold Lo
 by_cases D:b=0
 ·subst D
  simp only[qA,seval,Pe]
 rw[if_neg D]
 have F:((b.natAbs:Nat):Int)≠0:=zZ
 have H:=Mk a b N
 have O:Ev.bin .quo (.i .u64 (a.natAbs:Int)) (.i .u64 (b.natAbs:Int))=some (.i .u64 ((a.natAbs/b.natAbs:Nat):Int)):=by
  rw[JT F]
  have e:(a.natAbs:Int).tdiv (b.natAbs:Int)=((a.natAbs/b.natAbs:Nat):Int):=rfl
  rw[e,mc ⟨Int.natCast_nonneg _,Int.le_trans (Int.ofNat_le.2 H) zz⟩]
 have hr:Ev.bin .rem (.i .u64 (a.natAbs:Int)) (.i .u64 (b.natAbs:Int))=some (.i .u64 ((a.natAbs%b.natAbs:Nat):Int)):=by
  rw[Zi F];rfl
 have U:= @Ry a b D
 have I:= @Rz a b D
 unfold upN at I
 generalize a.natAbs/b.natAbs=q at*
 generalize a.natAbs%b.natAbs=r at*
 have J: ∀n:Nat,¬(1099511627776:Int)<(n:Int)→wr .i64 (n:Int)=(n:Int):=fun n h=>bI ⟨by omega,by omega⟩
 have K: ∀n:Nat,¬(1099511627776:Int)<(n:Int)→wr .i64 (0-(n:Int))= -(n:Int):=fun n h=>by rw[bI ⟨by omega,by omega⟩];omega
 have V: ¬(1099511627776:Int)<(q:Int):=zZ
 have m3:wr .u64 ((q:Int)+1)=((q+1:Nat):Int):=by rw[mc ⟨by omega,by omega⟩];omega
 have W:=J (q+1)
 have X:=K (q+1)
 have Y:=J q
 have Z:=K q
 simp only[qB,seval,Pe,h1,h2,agC,D,O,hr,kD,bq1,bq2,bq3,bq4,m3]
 clear h1 h2 O hr J K
 unfold bz
 grind (splits:=30)
theorem aeI:bd (-1):=by unfold bd;omega
theorem aeJ{a b:Int}(H:bd a)(V:bd b):ae pE 228 [.i .i64 a,.i .i64 b] []=some (.i .i64 (Lo a b),[]):=by
 have N:=OI H aeI
 rw[av ago (by simp[Ku])]
 unfold Lo
 by_cases D:b=0
 ·subst D
  simp only[qA,seval,Ku]
 rw[if_neg D]
 by_cases I:b= -1
 ·subst I
  have e:a.fdiv (-1)=a* -1:=by
   have:=Int.fdiv_neg (a:=a) (b:=1) zz
   rw[if_pos (Int.one_dvd a),Int.fdiv_one]at this
   rw[this];omega
  rw[e]
  simp only[qA,seval,Ku,N,agn]
 have W:= @Int.fdiv_eq_tdiv a b
 have X:= @Int.dvd_iff_tmod_eq_zero b a
 have O:=Int.natAbs_tdiv_le_natAbs a b
 have R:=F8 H
 have F:Ev.bin .quo (.i .i64 a) (.i .i64 b)=some (.i .i64 (a.tdiv b)):=by
  rw[Zj D,bI ⟨by omega,by omega⟩]
 have J:=Zk (a:=a) D
 have DJ:=xh (a.tdiv b)
 have K:=xh (a.tdiv b-1)
 have U:wr .i64 (a.tdiv b-1)=a.tdiv b-1:=bI ⟨by omega,by omega⟩
 generalize a.tdiv b=q at*
 generalize a.tmod b=r at*
 have e1:b<0→b.sign= -1:=Int.sign_eq_neg_one_of_neg
 have e2:0<b→b.sign=1:=Int.sign_eq_one_of_pos
 simp only[qB,seval,Ku,D,I,F,J,DJ,K,Hu,kD,bq5,bq6,bq7,bq8,U]
 clear DJ K F J
 grind (splits:=30)
theorem aeK(a b:Int):bd (Lo a b):=by
 unfold Lo
 split
 ·unfold bd;omega
 ·exact ry _
def bit(n:Int):Prop:=n=0∨n=1
theorem amS{n:Int}(h:bit n):bd n:=by unfold bit at h;unfold bd;omega
theorem RA(b:Bool):bit (mj b):=by cases b <;> simp[mj,bit]
theorem Ml(c f t:Int):ae pE 147 [.i .i64 c,.i .i64 f,.i .i64 t] []=some (.b (ij c f t),[]):=by
 rw[av TO (by simp[O3])]
 unfold ij
 by_cases h1:f≤t
 ·by_cases h2:f≤c <;> by_cases h3:c<t <;> simp only[qA,seval,O3,h1,h2,h3]
 ·by_cases h2:f≤c <;> by_cases h3:c<t <;> simp only[qA,seval,O3,h1,h2,h3,or_true,or_false,or_self]
theorem Mm(c f t:Int):ae pE 183 [.i .i64 c,.i .i64 f,.i .i64 t] []=some (.b (ij c f t),[]):=by
 have h:ae pE 173 [.i .i64 c,.i .i64 f,.i .i64 t] []=some (.b (ij c f t),[]):=by
  rw[av T3 (by simp[D3])]
  unfold ij
  by_cases h1:f≤t
  ·by_cases h2:f≤c <;> by_cases h3:c<t <;> simp only[qA,seval,D3,h1,h2,h3]
  ·by_cases h2:f≤c <;> by_cases h3:c<t <;> simp only[qA,seval,D3,h1,h2,h3,or_true,or_false,or_self]
 rw[av Ua (by simp[SU])]
 simp only[qA,seval,SU,h,T4]
theorem OJ(b:Bool):ae pE 178 [.b b] []=some (.i .i64 (mj b),[]):=by
 rw[av T5 (by simp[SR])]
 cases b <;> simp only[qA,seval,SR,mj]
theorem vG(b:Bool):ae pE 146 [.b b] []=some (.i .i64 (mj b),[]):=by
 rw[av TN (by simp[SE])]
 cases b <;> simp only[qA,seval,SE,mj]
def Mn(op:Int):Int→List Int→Int:=if op=12 then akR else akS
theorem By(op m v:Int)(r:List Int)(h:op=12∨op=13):Mn op m (v::r)=Mn op (if op=12 then min m v else max m v) r:=by
 unfold Mn
 rcases h with rfl|rfl <;> rfl
theorem F9(op m:Int):Mn op m []=m:=by unfold Mn;split <;> rfl
theorem aEm(op num:Int)(Aa:op=12∨op=13)(r:List Int)(N:0<r.length)(a:T)(I:IsSl a r.length (ints r))(hlen:r.length≤iP)(fr:Fr)(lh:aE ah)(sh:List ah)
  (h0:aa fr 0= .i .i64 op) (h2:aa fr 2=a) (O:aa fr 7= .i .i64 (a0 r)) (R:aa fr 8= .i .i64 1):
  Lp pE 176 tm fr lh sh (.ext 1) fun f l s=>aa f 7= .i .i64 (Mn op (a0 r) r.tail)∧l=lh∧s=sh:=by
 refine cm OU (fun k f l s=> ∃m,aa f 7= .i .i64 m∧aa f 8= .i .i64 ((k+1:Nat):Int)∧Mn op m (r.drop (k+1))=Mn op (a0 r) r.tail∧l=lh∧s=sh) (r.length-1) ⟨_,O,R,by simp,rfl,rfl⟩ ?_ ?_
 ·rintro k f _ _ hk F ⟨m,J,H,hx,rfl,rfl⟩
  have D:k+1<r.length:=zZ
  have K:((k+1:Nat):Int)<r.length:=zZ
  have U:=ba (k:=k+1) zZ
  rw[List.drop_eq_getElem_cons D,By _ _ _ _ Aa]at hx
  rcases Aa with rfl|rfl <;> simp only[qB,seval,gd,tm,F,h0,h2,J,H,I.lenI,K,Bg I D,U,kD,bq1,bq2,bq3,bq4] <;> clear F <;> grind
 ·rintro f _ _ F ⟨m,J,H,hx,rfl,rfl⟩
  rw[show r.length-1+1=r.length by omega]at hx H
  rw[List.drop_length,F9]at hx
  simp only[qB,seval,gd,tm,F,h2,J,H,I.lenI,Int.lt_irrefl,hx]
def vOk(op:Int)(r:List Int):Prop:=(∀v∈r,bd v)∧((op=19∨op=20∨op=21∨op=22)→ ∀v∈r,bit v)∧(op=14→bit (a0 r))
theorem Q2(op num:Int)(r:List Int)(a:T)(D:IsSl a r.length (ints r))(hl:r.length≤iP)(h1:7≤op)(h2:op≤22)(F:dB op r.length=true)(W:vOk op r):ae pE 107 [.i .i64 op,.i .i64 num,a] []=some (.i .i64 (EY op r),[]):=by
 rw[av TG (by simp[pR])]
 obtain⟨K,JV,N⟩:=W
 have O: ∀x H,r=x::H→(op=12∨op=13)→uF pR.res pR.eff (DC pE pR.n pR.code ⟨kF [.i .i64 op,.i .i64 num,a],.nil,[]⟩)=some (.i .i64 (Mn op (a0 r) r.tail),[]):=by
  rintro x H rfl U
  have V:=fun fr lh sh=>aEm op num U (x::H) zP a D hl fr lh sh
  obtain⟨ex,rfl⟩:=nR D
  have X:0<H.length+1:=Nat.succ_pos _
  have Y:a0 (x::H)=x:=rfl
  rw[Y]at V ⊢
  rcases U with rfl|rfl <;> simp only[qA,seval,cT,pR,X,V]
 have Z:1≤op:=zZ
 rcases vz Z h2 with rfl|rfl|rfl|rfl|rfl|rfl|rfl|rfl|rfl|rfl|rfl|rfl|rfl|rfl|rfl|rfl|rfl|rfl|rfl|rfl|rfl|rfl
 all_goals first
  |exact absurd h1 zz
  |(obtain⟨x,y,rfl⟩:=nS (by simpa[dB]using F);obtain⟨ex,rfl⟩:=nR D;have hx:=K x zP;have I:=K y zP;simp only[qA,seval,cT,bj,aH,pR,ints,F5 hx I,F5 hx (tb I),aeG hx I,aeH hx I,F3 I,OJ,afU,at1,at2,at5,at6,at7,afS,afT];rfl)
  |(match r,F with
     |x::ts,_=>exact O x ts rfl zP)
  |skip
 ·obtain⟨x,rfl⟩:=Mf (by simpa[dB]using F)
  obtain⟨ex,rfl⟩:=nR D
  have hx:=K x zP
  have h:=F5 (a:=0) (by unfold bd;omega) (tb hx)
  have J:=F3 hx
  rw[show(0:Int)+ -x= -x by omega,DQ (tb hx)]at h
  simp only[qA,seval,cT,pR,ints,J,h,afU];rfl
 ·obtain⟨x,y,z,rfl⟩:=Mg (by simpa[dB]using F)
  obtain⟨ex,rfl⟩:=nR D
  have e:EY 14 [x,y,z]=if x=0 then z else y:=rfl
  rw[e]
  rcases N rfl with hx|hx <;> (change x=_ at hx;subst hx;simp only[qA,seval,cT,pR,ints])
 ·obtain⟨x,y,z,rfl⟩:=Mg (by simpa[dB]using F)
  obtain⟨ex,rfl⟩:=nR D
  simp only[qA,seval,cT,bj,aH,pR,ints,Mm,OJ,at8,at9,afS,afT];rfl
 ·obtain⟨x,rfl⟩:=Mf (by simpa[dB]using F)
  obtain⟨ex,rfl⟩:=nR D
  have R:=JV zP x zP
  have J:wr .i64 (1-x)=1-x:=by unfold bit at R;exact bI ⟨by omega,by omega⟩
  simp only[qA,seval,cT,pR,ints,J];rfl
 all_goals
  obtain⟨x,y,rfl⟩:=nS (by simpa[dB]using F)
  obtain⟨ex,rfl⟩:=nR D
  have R:=JV zP x zP
  have J:wr .i64 (1-x)=1-x:=by unfold bit at R;exact bI ⟨by omega,by omega⟩
  have e1:EY 20 [x,y]=min x y:=rfl
  have e2:EY 21 [x,y]=max x y:=rfl
  have e3:EY 22 [x,y]=max (1-x) y:=rfl
  simp only[qB,seval,cT,bj,aH,pR,ints,J,e1,e2,e3]
  grind
theorem Mo(op a b:Int)(J:vOk op [a,b])(K:op=8∨op=9∨op=10∨op=11∨op=16∨op=17∨op=18∨op=20∨op=21∨op=22):ae pE 149 [.i .i64 op,.i .i64 a,.i .i64 b] []=some (.i .i64 (EY op [a,b]),[]):=by
 rw[av TQ (by simp[tF])]
 obtain⟨H,JV,_⟩:=J
 have F:=H a zP
 have D:=H b zP
 have r:(op=19∨op=20∨op=21∨op=22)→bit a∧bit b:=fun h=>⟨JV h a zP,JV h b zP⟩
 clear H JV
 rcases K with rfl|rfl|rfl|rfl|rfl|rfl|rfl|rfl|rfl|rfl
 ·have h:=F4 F D
  simp only[qA,seval,tF,h,TP];rfl
 ·have h:=F4 F (tb D)
  have I:=F3 D
  simp only[qA,seval,tF,h,I,TP];rfl
 ·have h:=OI F D
  simp only[qA,seval,tF,h,agn];rfl
 ·have h:=aeJ F D
  simp only[qA,seval,tF,h,aum];rfl
 ·have h:=vG (decide (a<b))
  simp only[qA,seval,tF,h,MB];rfl
 ·have h:=vG (decide (a≤b))
  simp only[qA,seval,tF,h,MB];rfl
 ·have h:=vG (decide (a=b))
  simp only[qA,seval,tF,h,MB];rfl
 ·obtain⟨h1,h2⟩:=r zP
  have h:=ac6 h1 h2
  simp only[qA,seval,tF,h];rfl
 ·obtain⟨h1,h2⟩:=r zP
  have h:=WE h1 h2
  simp only[qA,seval,tF,h];rfl
 ·obtain⟨h1,h2⟩:=r zP
  have I:wr .i64 (1-a)=1-a:=by unfold bit at h1;exact bI ⟨by omega,by omega⟩
  have h:=WE (a:=1-a) (b:=b) (by unfold bit at h1;omega) h2
  simp only[qA,seval,tF,I,h];rfl
inductive Fm where
 |mk (op num:Int) (args:List Fm)
def Fm.op:Fm→Int| .mk o _ _=>o
def Fm.num:Fm→Int| .mk _ n _=>n
def Fm.args:Fm→List Fm| .mk _ _ a=>a
mutual
def iN:Fm→List T→Prop
 | .mk op num args,cs=> ∃a r,cs= [.i .i64 op,.i .i64 num,a]∧IsSl a args.length r∧be args r
def be:List Fm→List T→Prop
 | [],cs=>cs= []
 |x::xs,cs=> ∃c r,cs=c++r∧iN x c∧be xs r
end
theorem iN.cells{x:Fm}{cs:List T}(h:iN x cs): ∃a r,cs= [.i .i64 x.op,.i .i64 x.num,a]∧IsSl a x.args.length r∧be x.args r:=by
 obtain⟨o,n,a⟩:=x
 rw[iN]at h
 exact h
theorem iN.of{x:Fm}{a:T}{r:List T}(h1:IsSl a x.args.length r)(h2:be x.args r):iN x [.i .i64 x.op,.i .i64 x.num,a]:=by
 obtain⟨o,n,l⟩:=x
 rw[iN]
 exact⟨a,r,rfl,h1,h2⟩
theorem iN.len{x:Fm}{cs:List T}(h:iN x cs):cs.length=3:=by
 obtain⟨a,r,rfl,_⟩:=h.cells;rfl
theorem be.nil:be [] []:=by rw[be]
theorem be.cons{x:Fm}{xs:List Fm}{c r:List T}(h1:iN x c)(h2:be xs r):be (x::xs) (c++r):=by
 grind [be]
theorem be.append: ∀{xs D:List Fm} {c r:List T},be xs c→be D r→be (xs++D) (c++r)
 | [],D,c,r,h1,h2=>by grind [be]
 |x::xs,D,c,r,h1,h2=>by
  rw[be]at h1
  obtain⟨F,H,rfl,h3,h4⟩:=h1
  rw[List.append_assoc]
  exact be.cons h3 (be.append h4 h2)
theorem be.one{x:Fm}{c:List T}(h:iN x c):be [x] c:=by
 have:=be.cons h be.nil
 grind
theorem be.len: ∀{xs:List Fm} {cs:List T},be xs cs→cs.length=xs.length*3
 | [],cs,h=>by grind [be]
 |x::xs,cs,h=>by
  rw[be]at h
  obtain⟨c,r,rfl,h1,h2⟩:=h
  rw[List.length_append,h1.len,h2.len,List.length_cons];omega
theorem be.drop: ∀{xs:List Fm} {cs:List T} (k:Nat) (hk:k<xs.length),be xs cs→ ∃c r,cs.drop (k*3)=c++r∧iN xs[k] c∧be (xs.drop (k+1)) r
 | [],cs,k,hk,h=>by simp at hk
 |x::xs,cs,0,hk,h=>by
  grind [be]
 |x::xs,cs,k+1,hk,h=>by
  rw[be]at h
  obtain⟨c,r,rfl,h1,h2⟩:=h
  obtain⟨D,F,e,h3,h4⟩:=be.drop k (by simpa using hk) h2
  refine⟨D,F, ?_,h3,by simpa using h4⟩
  have:(k+1)*3=c.length+k*3:=by rw[h1.len];omega
  grind [List.drop_append,Nat.add_sub_cancel_left,List.drop_eq_nil_of_le]
theorem ahn{xs:List Fm}{a:T}{F:List T}(h1:IsSl a xs.length F)(h2:be xs F)(k:Nat)(hk:k<xs.length):
  ∃b D r,(∀kk,iaV a (.i kk (k:Int)) 3=some (.vp (.i .i64 xs[k].op:: .i .i64 xs[k].num::b::r)))∧IsSl b xs[k].args.length D∧be xs[k].args D:=by
 obtain⟨c,r,e,h3,h4⟩:=be.drop k hk h2
 obtain⟨b,D,rfl,h5,h6⟩:=h3.cells
 refine⟨b,D,r,fun kk=> ?_,h5,h6⟩
 rw[h1.ia (sz:=3) h2.len hk,e];rfl
mutual
def Fm.val(at_:List Int):Fm→Int
 | .mk op num args=>if op=1 then num else if op=6 then at_.getD num.toNat 0 else EY op (eK at_ args)
def eK(at_:List Int):List Fm→List Int
 | []=> []
 |x::xs=>x.val at_::eK at_ xs
end
theorem Fm.val_eq(at_:List Int)(x:Fm):x.val at_=if x.op=1 then x.num else if x.op=6 then at_.getD x.num.toNat 0 else EY x.op (eK at_ x.args):=by obtain⟨_,_,_⟩:=x;rw[Fm.val];rfl
theorem qt(at_:List Int): ∀xs,eK at_ xs=xs.map (Fm.val at_)
 | []=>rfl
 |x::xs=>by rw[eK,qt at_ xs];rfl
mutual
def XI(at_:List Int):Fm→Prop
 | .mk op num args=>(op=1∧bd num)∨(op=6∧0≤num∧num.toNat<at_.length∧bd (at_.getD num.toNat 0))∨(7≤op∧op≤22∧dB op args.length=true∧args.length≤iP∧Bz at_ args∧vOk op (eK at_ args))
def Bz(at_:List Int):List Fm→Prop
 | []=>True
 |x::xs=>XI at_ x∧Bz at_ xs
end
theorem Ga(at_:List Int)(x:Fm):XI at_ x↔((x.op=1∧bd x.num)∨(x.op=6∧0≤x.num∧x.num.toNat<at_.length∧bd (at_.getD x.num.toNat 0))∨(7≤x.op∧x.op≤22∧dB x.op x.args.length=true∧x.args.length≤iP∧Bz at_ x.args∧vOk x.op (eK at_ x.args))):=by obtain⟨_,_,_⟩:=x;rw[XI];rfl
theorem JW(at_:List Int): ∀{xs:List Fm},Bz at_ xs↔ ∀x∈xs,XI at_ x
 | []=>by simp[Bz]
 |x::xs=>by simp_all[Bz,JW]
mutual
def Fm.sz:Fm→Nat
 | .mk _ _ args=>1+sO args
def sO:List Fm→Nat
 | []=>0
 |x::xs=>x.sz+sO xs
end
theorem Fm.sz_eq(x:Fm):x.sz=1+sO x.args:=by obtain⟨_,_,_⟩:=x;rw[Fm.sz];rfl
theorem AR: ∀{xs:List Fm} {x:Fm},x∈xs→x.sz≤sO xs
 |y::xs,x,h=>by
  rw[sO]
  rcases List.mem_cons.1 h with rfl|h
  ·omega
  ·have:=AR h;omega
theorem Fm.ind{P:Fm→Prop}(h: ∀x:Fm,(∀y∈x.args,P y)→P x)(x:Fm):P x:=by
 have: ∀n (x:Fm),x.sz≤n→P x:=by
  intro n
  induction n with
  |zero=>intro x hx;rw[x.sz_eq]at hx;omega
  |succ n ih=>
   intro x hx
   refine h x fun y r=>ih y ?_
   have:=AR r
   rw[x.sz_eq]at hx;omega
 exact this _ x (Nat.le_refl _)
section
variable(at_:List Int)(kS:T)(ew:IsSl kS at_.length (ints at_))
def amT(f:Fm):Prop:= ∀(b:T) (D r:List T),IsSl b f.args.length D→be f.args D→XI at_ f→ae pE 83 [.vp (.i .i64 f.op:: .i .i64 f.num::b::r),kS] []=some (.i .i64 (f.val at_),[])
include ew
theorem ax9{xs:List Fm}(ih: ∀y∈xs,amT at_ kS y){a:T}{F:List T}(H:IsSl a xs.length F)(hx:be xs F)(I:Bz at_ xs)(k:Nat)(hk:k<xs.length)(j:Int)(J:j=(k:Int)):
  ∃c,(∀kk,iaV a (.i kk j) 3=some (.vp c))∧ae pE 83 [.vp c,kS] []=some (.i .i64 (xs[k].val at_),[]):=by
 have _:=ew
 obtain⟨b,K,r,D,h1,h2⟩:=ahn H hx k hk
 subst J
 exact⟨_,D,ih xs[k] (List.getElem_mem hk) b K r h1 h2 ((JW at_).1 I _ (List.getElem_mem hk))⟩
theorem aEo(op num:Int)(Aa:op=12∨op=13)(xs:List Fm)(ih: ∀y∈xs,amT at_ kS y)(a:T)(O r:List T)(I:IsSl a xs.length O)(hx:be xs O)(V:Bz at_ xs)(J:0<xs.length)(hlen:xs.length≤iP)(fr:Fr)(lh:aE ah)(sh:List ah)
  (h0:aa fr 0= .vp (.i .i64 op:: .i .i64 num::a::r)) (h1:aa fr 1=kS) (h5:aa fr 5= .i .i64 (a0 (eK at_ xs))) (h6:aa fr 6= .i .i64 1):
  uL 155 pP fr lh sh (.ext 1)∧
  (aa (pz pE 155 pP fr lh sh) 5= .i .i64 (Mn op (a0 (eK at_ xs)) (eK at_ xs).tail)∧iu pE 155 pP fr lh sh=lh∧jw pE 155 pP fr lh sh=sh):=by
 refine cj (P:=fun fr aU W=>aa fr 5= .i .i64 (Mn op (a0 (eK at_ xs)) (eK at_ xs).tail)∧aU=lh∧W=sh) (cU (fun k st=> ∃(fr:Fr) (m:Int),st=⟨fr,lh,sh⟩∧aa fr 0= .vp (.i .i64 op:: .i .i64 num::a::r)∧aa fr 1=kS∧aa fr 5= .i .i64 m∧aa fr 6= .i .i64 (k:Int)∧Mn op m ((eK at_ xs).drop k)=Mn op (a0 (eK at_ xs)) (eK at_ xs).tail) _ xs.length ?_ ?_ 1 _ J ⟨fr,a0 (eK at_ xs),rfl,h0,h1,h5,h6,by rw[List.drop_one]⟩)
 ·rintro k _ hk ⟨fr,m,rfl,h0,h1,h5,h6,D⟩
  left
  have F:(k:Int)<xs.length:=zZ
  have R:=ba (k:=k) zZ
  have U:(eK at_ xs).length=xs.length:=by rw[qt];simp
  have K:(eK at_ xs)[k]' zZ=xs[k].val at_:=by simp[qt]
  obtain⟨c,H,N⟩:=ax9 at_ kS ew ih I hx V k hk (k:Int) rfl
  rw[List.drop_eq_getElem_cons zZ,By _ _ _ _ Aa,K]at D
  generalize xs[k].val at_=v at D N
  rcases Aa with rfl|rfl
  ·rw[if_pos rfl,show min m v=(if v<m then v else m)by split <;> omega]at D
   simp only[qA,seval,pP,h0,h1,h5,h6,I.lenI,F,H,R,N,Ht,ew.froz]
   refine⟨_,rfl,_,_,rfl, ?_, ?_, ?_, ?_,D⟩ <;> simp only[qA,seval,h0,h1]
  ·rw[if_neg zz,show max m v=(if v>m then v else m)by split <;> omega]at D
   simp only[qA,seval,pP,h0,h1,h5,h6,I.lenI,F,H,R,N,Ht,ew.froz]
   refine⟨_,rfl,_,_,rfl, ?_, ?_, ?_, ?_,D⟩ <;> simp only[qA,seval,h0,h1]
 ·rintro _ ⟨fr,m,rfl,h0,h1,h5,h6,D⟩
  have U:(eK at_ xs).length=xs.length:=by rw[qt];simp
  rw[←U,List.drop_length,F9]at D
  simp only[qA,seval,pP,h0,h6,I.lenI,Int.lt_irrefl]
  exact⟨_,_,sy,rfl,rfl,by simp only[qA,seval,h5,D],rfl,rfl⟩
theorem amU(f:Fm):amT at_ kS f:=by
 induction f using Fm.ind with
 |h f ih=>
  intro b cb r hb RM kN
  rw[av aaF (by simp[Ck]),Fm.val_eq]
  rcases(Ga at_ f).1 kN with⟨h1,_⟩|⟨h6,B4,B5,_⟩|⟨h7,Gt,eN,Rw,aya,hv⟩
  ·rw[if_pos h1]
   simp only[qA,seval,Ck,h1]
  ·rw[if_neg zZ,if_pos h6]
   have V:=fun kk=>Bg ew B5 kk
   rw[Int.toNat_of_nonneg B4]at V
   have e:at_.getD f.num.toNat 0=at_[f.num.toNat]:=by simp[List.getD_eq_getElem?_getD,List.getElem?_eq_getElem B5]
   rw[e]
   simp only[qA,seval,Ck,h6,V]
  ·rw[if_neg zZ,if_neg zZ]
   have K:eK at_ f.args=f.args.map (Fm.val at_):=qt at_ _
   have D: ∀(k:Nat) (hk:k<f.args.length) (j:Int),j=(k:Int)→ ∃c,(∀kk,iaV b (.i kk j) 3=some (.vp c))∧ae pE 83 [.vp c,kS] []=some (.i .i64 (f.args[k].val at_),[]):=fun k hk j hj=>ax9 at_ kS ew (fun y hy=>ih y hy) hb RM aya k hk j hj
   have W:0<f.args.length→(f.op=12∨f.op=13)→uF Ck.res Ck.eff (DC pE Ck.n Ck.code ⟨kF [.vp (.i .i64 f.op:: .i .i64 f.num::b::r),kS],.nil,[]⟩)=some (.i .i64 (Mn f.op (a0 (eK at_ f.args)) (eK at_ f.args).tail),[]):=by
    intro R ho
    obtain⟨X,F,DJ⟩:=D 0 R 0 rfl
    have hL:=fun fr lh sh=>aEo at_ kS ew f.op f.num ho f.args (fun y hy=>ih y hy) b cb r hb RM aya R Rw fr lh sh
    have H:a0 (eK at_ f.args)=f.args[0].val at_:=by rw[K];unfold a0;simp[List.getD_eq_getElem?_getD,List.getElem?_eq_getElem R]
    rw[H]at hL ⊢
    rcases ho with ho|ho <;> rw[ho]at hL ⊢ <;> simp only[qA,seval,Ck,F,DJ,Ht,ew.froz,hL]
   have Y: ∀x y:Int,eK at_ f.args= [x,y]→(f.op=8∨f.op=9∨f.op=10∨f.op=11∨f.op=16∨f.op=17∨f.op=18∨f.op=20∨f.op=21∨f.op=22)→uF Ck.res Ck.eff (DC pE Ck.n Ck.code ⟨kF [.vp (.i .i64 f.op:: .i .i64 f.num::b::r),kS],.nil,[]⟩)=some (.i .i64 (EY f.op [x,y]),[]):=by
    intro x y Gp ho
    have ZN:f.args.length=2:=by have:=congrArg List.length Gp;rw[K]at this;simpa using this
    obtain⟨X,F,DJ⟩:=D 0 zZ 0 rfl
    obtain⟨c1,Zl,N⟩:=D 1 zZ 1 rfl
    have H:f.args[0].val at_=x:=by
     have:(eK at_ f.args)[0]? =some x:=by rw[Gp];rfl
     grind
    have e1:f.args[1].val at_=y:=by
     have:(eK at_ f.args)[1]? =some y:=by rw[Gp];rfl
     grind
    rw[H]at DJ
    rw[e1]at N
    rw[Gp]at hv
    have Z:=Mo f.op x y hv ho
    rcases ho with ho|ho|ho|ho|ho|ho|ho|ho|ho|ho <;> rw[ho]at Z ⊢ <;> simp only[qA,seval,bj,aH,Ck,F,Zl,DJ,N,Ht,as1,ew.froz,Z,atE,atF]
   have O: ∀(k:Nat) (hk:k<f.args.length),(eK at_ f.args)[k]? =some (f.args[k].val at_):=fun k hk=>by rw[K];simp[List.getElem?_eq_getElem hk]
   rcases vz (show 1≤f.op by omega) Gt with h|h|h|h|h|h|h|h|h|h|h|h|h|h|h|h|h|h|h|h|h|h
   iterate 6 ·omega
   ·have J6:f.args.length=1:=by rw[h]at eN;simpa[dB]using eN
    obtain⟨x,hx⟩:=Mf (ts:=eK at_ f.args) (by rw[K];simpa using J6)
    obtain⟨X,F,DJ⟩:=D 0 zZ 0 rfl
    have H:f.args[0].val at_=x:=by have:=O 0 zZ;rw[hx]at this;simpa using this.symm
    rw[H]at DJ
    rw[hx]at hv ⊢
    have I:=hv.1 x zP
    have ha:=F4 (a:=0) (by unfold bd;omega) (tb I)
    have hw:=F3 I
    rw[show(0:Int)+ -x= -x by omega,DQ (tb I)]at ha
    rw[h]
    simp only[qA,seval,Ck,F,DJ,Ht,ew.froz,hw,ha,TP];rfl
   ·grind [dB,nS,eK]
   ·grind [dB,nS,eK]
   ·grind [dB,nS,eK]
   ·grind [dB,nS,eK]
   ·rw[W (by rw[h]at eN;simp[dB]at eN;omega) zZ,h];rfl
   ·rw[W (by rw[h]at eN;simp[dB]at eN;omega) zZ,h];rfl
   ·have U:f.args.length=3:=by rw[h]at eN;simpa[dB]using eN
    obtain⟨x,y,z,hx⟩:=Mg (ts:=eK at_ f.args) (by rw[K];simpa using U)
    obtain⟨X,F,DJ⟩:=D 0 zZ 0 rfl
    obtain⟨c1,Zl,N⟩:=D 1 zZ 1 rfl
    obtain⟨c2,Jn,J⟩:=D 2 zZ 2 rfl
    have H:f.args[0].val at_=x:=by have:=O 0 zZ;rw[hx]at this;simpa using this.symm
    have e1:f.args[1].val at_=y:=by have:=O 1 zZ;rw[hx]at this;simpa using this.symm
    have e2:f.args[2].val at_=z:=by have:=O 2 zZ;rw[hx]at this;simpa using this.symm
    rw[H]at DJ
    rw[e1]at N
    rw[e2]at J
    rw[hx,h,show EY 14 [x,y,z]=if x=0 then z else y from rfl]
    by_cases hx0:x=0 <;> simp only[qA,seval,Ck,F,Zl,Jn,DJ,N,J,Ht,ew.froz,hx0]
   ·have U:f.args.length=3:=by rw[h]at eN;simpa[dB]using eN
    obtain⟨x,y,z,hx⟩:=Mg (ts:=eK at_ f.args) (by rw[K];simpa using U)
    obtain⟨X,F,DJ⟩:=D 0 zZ 0 rfl
    obtain⟨c1,Zl,N⟩:=D 1 zZ 1 rfl
    obtain⟨c2,Jn,J⟩:=D 2 zZ 2 rfl
    have H:f.args[0].val at_=x:=by have:=O 0 zZ;rw[hx]at this;simpa using this.symm
    have e1:f.args[1].val at_=y:=by have:=O 1 zZ;rw[hx]at this;simpa using this.symm
    have e2:f.args[2].val at_=z:=by have:=O 2 zZ;rw[hx]at this;simpa using this.symm
    rw[H]at DJ
    rw[e1]at N
    rw[e2]at J
    rw[hx,h]
    have hi:=Ml x y z
    have ht:=vG (ij x y z)
    simp only[qA,seval,bj,aH,Ck,F,Zl,Jn,DJ,N,J,Ht,as1,ew.froz,hi,ht,atC,atD,MB,atA];rfl
   iterate 3
    ·obtain⟨x,y,Gp⟩:=nS (ts:=eK at_ f.args) (by rw[K];rw[h]at eN;simpa[dB]using eN)
     rw[Gp];exact Y x y Gp zZ
   ·have J6:f.args.length=1:=by rw[h]at eN;simpa[dB]using eN
    obtain⟨x,hx⟩:=Mf (ts:=eK at_ f.args) (by rw[K];simpa using J6)
    obtain⟨X,F,DJ⟩:=D 0 zZ 0 rfl
    have H:f.args[0].val at_=x:=by have:=O 0 zZ;rw[hx]at this;simpa using this.symm
    rw[H]at DJ
    rw[hx]at hv ⊢
    have I:=hv.2.1 zZ x zP
    have hw:wr .i64 (1-x)=1-x:=by unfold bit at I;exact bI ⟨by omega,by omega⟩
    rw[h]
    simp only[qA,seval,Ck,F,DJ,Ht,ew.froz,hw];rfl
   iterate 3
    ·obtain⟨x,y,Gp⟩:=nS (ts:=eK at_ f.args) (by rw[K];rw[h]at eN;simpa[dB]using eN)
     rw[Gp];exact Y x y Gp zZ
end
end Go.Proofs.YtnkgnjecmfkcfaaGreat
