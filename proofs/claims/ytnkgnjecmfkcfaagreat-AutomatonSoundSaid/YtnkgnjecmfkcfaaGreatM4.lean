/- Walks, plain laws (4). Conditions: the theorems' own. -/
import Derived.Test.YtnkgnjecmfkcfaaGreatM2
set_option maxRecDepth 100000
set_option linter.all false
set_option maxHeartbeats 16000000
namespace Go.Proofs.YtnkgnjecmfkcfaaGreat
open Go Go.Ev
def K5{k:Nat}(h:k≤1000000):wr .i64 ((k:Int)+1)=((k+1:Nat):Int):=aF (Nat.lt_of_le_of_lt h zz)
def jA:Nat:=1000000
def iu{k:Nat}(h:k≤100000):k≤jA:=Nat.le_trans h zz
def bn{k:Nat}(h:k≤jA):wr .i64 ((k:Int)+1)=((k+1:Nat):Int):=K5 h
def gJ:Nat:=1125899906842624
def acG{k:Nat}(h:k≤gJ):wr .i64 ((k:Int)+1)=((k+1:Nat):Int):=aF (Nat.lt_of_le_of_lt h zz)
theorem UE{xs:List Ex}{k:Nat}(hk:k<xs.length):xs.drop k=xs[k]::xs.drop (k+1):=List.drop_eq_getElem_cons hk
def xl{op:Int}(h1:1≤op)(h2:op≤22):op=1∨op=2∨op=3∨op=4∨op=5∨op=6∨op=7∨op=8∨op=9∨op=10∨op=11∨op=12∨op=13∨op=14∨op=15∨op=16∨op=17∨op=18∨op=19∨op=20∨op=21∨op=22:=zV
def acH{x:Ex}(r:bM x=0):x.nodes≤200:=by
 unfold bM at r
 by_cases h:big x
 ·rw[if_pos h]at r;cases r
 ·unfold big at h;omega
def oO{z:Nat}{fr:Fr}{lh:aE ah}{sh:List ah}(x:Ex)(cs:List T)(hx:iD x cs)(D:0≤x.nodes)(hs:x.sm):br pE (ae pE) z ⟨fr,lh,sh⟩ 215 [.agg cs]=some (qi (bM x),⟨fr,lh,sh⟩):=by
 obtain⟨s,h⟩:=pvB x hs
 rw[←show cs=fN x from hx]at h
 obtain⟨a,F,rfl,r,Vb⟩:=hx.cells
 rw[aj8 (by simp[Ke,wq,GS,r.froz1]),h];rfl
def sN(x:Ex)(cs:List T)(hx:iD x cs)(hs:x.sm):ae pE 175 [.agg cs] []=some (qi (bM x),[]):=by
 rw[show cs=fN x from hx]
 exact rvB x hs
theorem eu(l:List Int):(ints l).length=l.length:=by simp[ints]
theorem lY(l:List Int)(k:Nat)(hk:k<l.length):(ints l).drop k=qi l[k]::(ints l).drop (k+1):=by
 rw[List.drop_eq_getElem_cons (by rw[eu];exact hk)];simp[ints]
theorem Dc{a:T}{ts:List Int}(r:IsSl a ts.length (ints ts)){k:Nat}(hk:k<ts.length)(kk:IntKind):iaV a (.i kk (k:Int)) 1=some (.vp (qi ts[k]::(ints ts).drop (k+1))):=by
 rw[r.ia (sz:=1) (by rw[eu];omega) hk,Nat.mul_one,lY ts k hk]
theorem UF{ts:List Int}{k:Nat}{t:Int}(hk:k<ts.length):jb (ts.drop k) t=(decide (ts[k]=t)&&jb (ts.drop (k+1)) t):=by
 unfold jb;rw[List.drop_eq_getElem_cons hk,List.all_cons]
def aC8(ts:List Int)(t:Int)(a:T)(K:IsSl a ts.length (ints ts))(hlen:ts.length≤jA)(o:Out)(N:o=if jb ts t then .ext 0 else .ret)(fr:Fr)(lh:aE ah)(sh:List ah)
  (h1:aa fr 1= qi t) (F:aa fr 7=a) (D:aa fr 8= qi (ts.length:Int)) (H:aa fr 9= qi 0):
  qz 17 mO fr lh sh o∧
  ((jb ts t=false→aa (nM pE 17 mO fr lh sh) 4= .b false)∧iL pE 17 mO fr lh sh=lh∧je pE 17 mO fr lh sh=sh):=by
 refine cq (P:=fun fr aN O=>(jb ts t=false→aa fr 4= .b false)∧aN=lh∧O=sh) (cY (fun k st=> ∃(fr:Fr),st=⟨fr,lh,sh⟩∧aa fr 1= qi t∧aa fr 7=a∧aa fr 8= qi (ts.length:Int)∧aa fr 9= qi (k:Int)∧jb ts t=jb (ts.drop k) t) _ ts.length ?_ ?_ 0 _ (Nat.zero_le _) ⟨fr,rfl,h1,F,D,H,rfl⟩)
 ·rintro k _ hk ⟨fr,rfl,h1,F,D,H,r⟩
  have I:(k:Int)<ts.length:=zV
  have U:=bn (k:=k) zV
  rw[UF hk]at r
  by_cases J:ts[k]=t
  ·left
   rw[decide_eq_true J,Bool.true_and]at r
   simp only[qA,seval,mO,h1,F,D,H,I,Dc K hk,U,J]
   refine⟨_,rfl,_,rfl, ?_, ?_, ?_, ?_,r⟩ <;> simp only[qA,seval,h1,F,D]
  ·right
   rw[decide_eq_false J,Bool.false_and]at r
   simp only[qA,seval,mO,h1,F,D,H,I,Dc K hk,J]
   refine⟨_,_,ad8,rfl,by rw[N,r];rfl,fun _=>by simp only[qA,seval],rfl,rfl⟩
 ·rintro _ ⟨fr,rfl,h1,F,D,H,r⟩
  rw[List.drop_length]at r
  have r:jb ts t=true:=r
  simp only[qA,seval,mO,D,H,Int.lt_irrefl]
  exact⟨_,_,tS,rfl,by rw[N,r];rfl,fun hc=>(by rw[r]at hc;cases hc),rfl,rfl⟩
def Rp(ts:List Int)(t:Int)(a:T)(r:IsSl a ts.length (ints ts))(hlen:ts.length≤jA):ae pE 309 [a,qi t] []=some (.b (jb ts t),[]):=by
 have D:=fun fr lh sh=>aC8 ts t a r hlen _ rfl fr lh sh
 rw[au akS (by simp[WM])]
 cases h:jb ts t <;> simp only[h]at D <;> simp only[qA,seval,WM,r.lenI,D]
def F0(k:Int):ae pE 308 [qi k] []=some (.b (decide (k=1∨k=2)),[]):=by
 rw[au XI (by simp[Ss])]
 by_cases h1:k=1
 ·simp only[qA,seval,Ss,h1,true_or]
 ·by_cases h2:k=2 <;> simp only[qA,seval,Ss,h1,h2,or_true,or_self]
def Ds(op a b:Int):ae pE 310 [qi op,qi a,qi b] []=some (qi (KB op a b),[]):=by
 rw[au XJ (by simp[ye])]
 unfold KB
 by_cases a1:a=1
 ·subst a1
  by_cases r:b=1
  ·simp only[qA,seval,ye,r]
  ·by_cases D:op=10
   ·by_cases H:b=2 <;> simp only[qA,seval,ye,r,H,D]
   ·by_cases F:op=11 <;> simp only[qA,seval,ye,r,D,F]
 ·by_cases a2:a=2
  ·subst a2
   by_cases r:b=1
   ·simp only[qA,seval,ye,r]
   ·by_cases D:op=10
    ·simp only[qA,seval,ye,r,D]
    ·by_cases F:op=11
     ·by_cases H:b=2 <;> simp only[qA,seval,ye,r,H,F]
     ·simp only[qA,seval,ye,r,D,F]
  ·by_cases D:op=10
   ·simp only[qA,seval,ye,a1,a2,D]
   ·by_cases F:op=11 <;> simp only[qA,seval,ye,a1,a2,D,F]
def oP{a:T}{t:Int}{ts:List Int}(r:IsSl a (t::ts).length (ints (t::ts))): ∃ex,a= .sl (qi t::ints ts) (ts.length+1) ex:=by
 rcases r with⟨_,h,_⟩|⟨ex,h⟩
 ·simp at h
 ·exact⟨ex,h⟩
def OL{ts:List Int}(h:ts.length=1): ∃a,ts= [a]:=by
 match ts,h with
 | [a],_=>grind
theorem oQ{ts:List Int}(h:ts.length=2): ∃a b,ts= [a,b]:=by
 match ts,h with
 | [a,b],_=>grind
def OM{ts:List Int}(h:ts.length=3): ∃a b c,ts= [a,b,c]:=by
 match ts,h with
 | [a,b,c],_=>grind
theorem oR(t:Int)(ts:List Int)(k:Int):jb (t::ts) k=(decide (t=k)&&jb ts k):=rfl
theorem acI(t:Int)(ts:List Int):(if jb (t::ts) 1 then(1:Int)else if jb (t::ts) 2 then 2 else 0)=if(t=1∨t=2)∧jb (t::ts) t=true then t else 0:=by
 rw[oR,oR,oR,decide_eq_true (p:=t=t) rfl,Bool.true_and]
 grind
def oS(op k:Int)(ts:List Int)(a:T)(r:IsSl a ts.length (ints ts))(hl:ts.length≤jA)(h:op=15∧k=3∨(op=19∨op=20∨op=21∨op=22)∧k=4):ae pE 311 [qi op,a] []=some (.b (jb ts k),[]):=by
 have h1:=Rp ts k a r hl
 rw[au Pn (by simp[DP])]
 rcases h with⟨rfl,rfl⟩|⟨rfl|rfl|rfl|rfl,rfl⟩ <;> simp only[qA,seval,DP,h1,akT,r.froz]
theorem F1(op x y:Int)(a:T)(D:IsSl a 2 (ints [x,y]))(h:op=16∨op=17):ae pE 311 [qi op,a] []=some (.b (decide ((x=1∨x=2)∧x=y)),[]):=by
 obtain⟨ex,rfl⟩:=oP (ts:= [y]) D
 have r:=F0 x
 rw[au Pn (by simp[DP])]
 by_cases hx:x=1∨x=2
 ·rw[decide_eq_true hx]at r
  rcases h with rfl|rfl <;> simp only[qA,seval,cX,bg,aH,DP,r,Pm,akR,ints,hx]
 ·rw[decide_eq_false hx]at r
  rcases h with rfl|rfl <;> simp only[qA,seval,cX,bg,DP,r,Pm,akR,ints,hx]
theorem acJ(x y:Int)(a:T)(r:IsSl a 2 (ints [x,y])):ae pE 311 [qi 18,a] []=some (.b (decide (x=y)),[]):=by
 obtain⟨ex,rfl⟩:=oP (ts:= [y]) r
 rw[au Pn (by simp[DP])]
 simp only[qA,seval,cX,bg,DP,ints]
def ON(op:Int)(ts:List Int)(a:T)(r:IsSl a ts.length (ints ts))(hl:ts.length≤jA)(h1:1≤op)(h2:op≤22)(h6:op≠6)(D:dQ op ts.length=true):ae pE 289 [qi op,a] []=some (qi (mr op ts),[]):=by
 rw[au akN (by simp[nZ])]
 have F: ∀t BL,ts=t::BL→(op=7∨op=8∨op=9∨op=12∨op=13)→wo nZ.res nZ.eff (DC pE nZ.n nZ.code ⟨lI [qi op,a],.nil,[]⟩)=some (qi (if(t=1∨t=2)∧jb ts t=true then t else 0),[]):=by
  rintro t BL rfl H
  have K:=Rp (t::BL) t a r hl
  have I:=F0 t
  obtain⟨ex,rfl⟩:=oP r
  have N:0<BL.length+1:=Nat.succ_pos _
  by_cases hx:t=1∨t=2
  ·rw[decide_eq_true hx]at I
   cases hk:jb (t::BL) t <;> rw[hk]at K <;> rcases H with rfl|rfl|rfl|rfl|rfl <;>
    simp only[qA,seval,cX,nZ,I,Pm,K,akT,hx,N]
  ·rw[decide_eq_false hx]at I
   rcases H with rfl|rfl|rfl|rfl|rfl <;> simp only[qA,seval,cX,nZ,I,Pm,hx,N]
 have L0: ∀b:Bool,ae pE 311 [qi op,a] []=some (.b b,[])→(op=15∨op=16∨op=17∨op=18∨op=19∨op=20∨op=21∨op=22)→wo nZ.res nZ.eff (DC pE nZ.n nZ.code ⟨lI [qi op,a],.nil,[]⟩)=some (qi (if b=true then 4 else 0),[]):=by
  intro b O H
  cases b <;> rcases H with rfl|rfl|rfl|rfl|rfl|rfl|rfl|rfl <;> simp only[qA,seval,nZ,O,azD,r.froz]
 rcases xl h1 h2 with rfl|rfl|rfl|rfl|rfl|rfl|rfl|rfl|rfl|rfl|rfl|rfl|rfl|rfl|rfl|rfl|rfl|rfl|rfl|rfl|rfl|rfl
 iterate 5 ·simp only[qA,seval,nZ,mr]
 ·grind
 ·obtain⟨x,rfl⟩:=OL (by simpa[dQ]using D)
  rw[F x [] rfl yv,←acI];rfl
 ·obtain⟨x,y,rfl⟩:=oQ (by simpa[dQ]using D)
  rw[F x [y] rfl yv,←acI];rfl
 ·obtain⟨x,y,rfl⟩:=oQ (by simpa[dQ]using D)
  rw[F x [y] rfl yv,←acI];rfl
 ·obtain⟨x,y,rfl⟩:=oQ (by simpa[dQ]using D)
  obtain⟨ex,rfl⟩:=oP r
  have J:=Ds 10 x y
  simp only[qA,seval,cX,bg,aH,nZ,ints,J,akU,akV];rfl
 ·obtain⟨x,y,rfl⟩:=oQ (by simpa[dQ]using D)
  obtain⟨ex,rfl⟩:=oP r
  have J:=Ds 11 x y
  simp only[qA,seval,cX,bg,aH,nZ,ints,J,akU,akV];rfl
 ·match ts,D with
  |x::ts,_=>rw[F x ts rfl yv,←acI];rfl
 ·match ts,D with
  |x::ts,_=>rw[F x ts rfl yv,←acI];rfl
 ·obtain⟨x,y,z,rfl⟩:=OM (by simpa[dQ]using D)
  obtain⟨ex,rfl⟩:=oP r
  have hr:mr 14 [x,y,z]=if x=4∧y=z then y else 0:=rfl
  rw[hr]
  by_cases hx:x=4
  ·by_cases U:y=z <;> simp only[qA,seval,cX,bg,aH,nZ,ints,hx,U]
  ·simp only[qA,seval,cX,bg,aH,nZ,ints,hx]
 ·exact L0 _ (oS 15 3 ts a r hl yv) yv
 ·obtain⟨x,y,rfl⟩:=oQ (by simpa[dQ]using D)
  rw[L0 _ (F1 16 x y a r yv) yv]
  have hr:mr 16 [x,y]=if(x=1∨x=2)∧x=y then 4 else 0:=rfl
  rw[hr];simp only[decide_eq_true_eq]
 ·obtain⟨x,y,rfl⟩:=oQ (by simpa[dQ]using D)
  rw[L0 _ (F1 17 x y a r yv) yv]
  have hr:mr 17 [x,y]=if(x=1∨x=2)∧x=y then 4 else 0:=rfl
  rw[hr];simp only[decide_eq_true_eq]
 ·obtain⟨x,y,rfl⟩:=oQ (by simpa[dQ]using D)
  rw[L0 _ (acJ x y a r) yv]
  have hr:mr 18 [x,y]=if x=y then 4 else 0:=rfl
  rw[hr];simp only[decide_eq_true_eq]
 ·exact L0 _ (oS 19 4 ts a r hl yv) yv
 ·exact L0 _ (oS 20 4 ts a r hl yv) yv
 ·exact L0 _ (oS 21 4 ts a r hl yv) yv
 ·exact L0 _ (oS 22 4 ts a r hl yv) yv
def dc:Cs→List T→Prop
 | [],cs=>cs= []
 |c::l,cs=> ∃ex r,cs=(T.s c.1::ex)++r∧iD c.2 ex∧dc l r
theorem dc.len: ∀{l:Cs} {cs:List T},dc l cs→cs.length=l.length*5
 | [],cs,h=>by grind [dc]
 |c::l,cs,h=>by
  rw[dc]at h
  obtain⟨ex,r,rfl,h1,h2⟩:=h
  rw[List.length_append,List.length_cons,h1.len,h2.len,List.length_cons];omega
theorem dc.drop: ∀{l:Cs} {cs:List T} (k:Nat) (hk:k<l.length),dc l cs→ ∃ex r,cs.drop (k*5)=(T.s l[k].1::ex)++r∧iD l[k].2 ex∧dc (l.drop (k+1)) r
 | [],cs,k,hk,h=>by simp at hk
 |x::xs,cs,0,hk,h=>by
  grind [dc]
 |x::xs,cs,k+1,hk,h=>by
  rw[dc]at h
  obtain⟨c,r,rfl,h1,h2⟩:=h
  obtain⟨D,F,e,h3,h4⟩:=dc.drop k (by simpa using hk) h2
  refine⟨D,F, ?_,h3,by simpa using h4⟩
  have:(k+1)*5=(T.s x.1::c).length+k*5:=by rw[List.length_cons,h1.len];omega
  grind [List.drop_append,Nat.add_sub_cancel_left,List.drop_eq_nil_of_le]
theorem dc.take: ∀{l:Cs} {cs:List T} (k:Nat),dc l cs→dc (l.take k) (cs.take (k*5))
 |l,cs,0,h=>by simp[dc]
 | [],cs,k+1,h=>by grind [dc]
 |x::xs,cs,k+1,h=>by
  rw[dc]at h
  obtain⟨c,r,rfl,h1,h2⟩:=h
  have:(k+1)*5=(T.s x.1::c).length+k*5:=by rw[List.length_cons,h1.len];omega
  rw[List.take_succ_cons,dc]
  refine⟨c,r.take (k*5), ?_,h1,dc.take k h2⟩
  grind [List.take_append,Nat.add_sub_cancel_left,List.take_of_length_le]
def gv{l:Cs}{a:T}{F:List T}(h1:IsSl a l.length F)(h2:dc l F)(k:Nat)(hk:k<l.length):
  ∃b D r,(∀kk,iaV a (.i kk (k:Int)) 5=some (.vp (.s l[k].1:: qi l[k].2.op:: qi l[k].2.num:: .s l[k].2.name::b::r)))∧IsSl b l[k].2.args.length D∧cD l[k].2.args D∧iD l[k].2 [qi l[k].2.op,qi l[k].2.num,.s l[k].2.name,b]:=by
 obtain⟨c,r,e,h3,h4⟩:=dc.drop k hk h2
 obtain⟨b,D,rfl,h5,h6⟩:=h3.cells
 refine⟨b,D,r,fun kk=> ?_,h5,h6,h3⟩
 rw[h1.ia (sz:=5) h2.len hk,e];rfl
theorem Rq: ∀{l:Cs} {s:List Nat} {i:Nat},fu l s=some i→i<l.length
 | [],s,i,h=>by simp[fu]at h
 |c::cs,s,i,h=>by
  rw[fu]at h
  split at h
  ·grind
  ·cases r:fu cs s with
   |none=>simp[r]at h
   |some j=>
    simp[r]at h
    have:=Rq r
    grind
theorem yW{l:Cs}{s:List Nat}: ∀(k:Nat),k≤l.length→(∀j (h:j<k) (hl:j<l.length),l[j].1≠s)→fu l s=(fu (l.drop k) s).map (· +k)
 |0,_,_=>by simp
 |k+1,hk,h=>by
  have:=yW (l:=l) k zV fun j D hl=>h j zV hl
  have r:k<l.length:=zV
  rw[this,List.drop_eq_getElem_cons r,fu,if_neg (h k zV r)]
  cases fu (l.drop (k+1)) s with
  |none=>rfl
  |some i=>simp;omega
theorem yX(l:Cs)(s:List Nat): ∀n,fu (l.take n) s=match fu l s with|some i=>if i<n then some i else none|none=>none:=by
 induction l with
 |nil=>intro n;simp[fu]
 |cons c l ih=>
  intro n
  cases n with
  |zero=>
   grind [fu]
  |succ n=>
   grind [fu,hi]
def acK(l:Cs)(s:List Nat):Int:=match fu l s with|none=> -1|some i=>(i:Int)
theorem FM{l:Cs}{s:List Nat}{i:Nat}(h:fu l s=some i):acK l s=(i:Int):=by unfold acK;rw[h]
theorem UG{l:Cs}{s:List Nat}(h:fu l s=none):acK l s= -1:=by unfold acK;rw[h]
def aC9(l:Cs)(s:List Nat)(a:T)(N:List T)(K:IsSl a l.length N)(hc:dc l N)(hs:l.length≤jA)(o:Out)(O:o=if fu l s=none then .ext 0 else .ret)(fr:Fr)(lh:aE ah)(sh:List ah)(h0:aa fr 0=a)(h1:aa fr 1= .s s)(h5:aa fr 5= qi 0):
  qz 20 mK fr lh sh o∧
  ((∀i,fu l s=some i→aa (nM pE 20 mK fr lh sh) 4= qi (i:Int))∧iL pE 20 mK fr lh sh=lh∧je pE 20 mK fr lh sh=sh):=by
 refine cq (P:=fun fr aN U=>(∀i,fu l s=some i→aa fr 4= qi (i:Int))∧aN=lh∧U=sh) (cY (fun k st=> ∃fr:Fr,st=⟨fr,lh,sh⟩∧aa fr 0=a∧aa fr 1= .s s∧aa fr 5= qi (k:Int)∧k≤l.length∧ ∀j (h:j<k) (hl:j<l.length),l[j].1≠s) _ l.length ?_ ?_ 0 _ (Nat.zero_le _) ⟨fr,rfl,h0,h1,h5,Nat.zero_le _,by simp⟩)
 ·rintro k _ hk ⟨fr,rfl,h0,h1,h5,D,Af⟩
  have I:(k:Int)<l.length:=zV
  have V:=bn (k:=k) zV
  have F:=yW k D Af
  rw[List.drop_eq_getElem_cons hk,fu]at F
  obtain⟨b,W,r,J,_,_,_⟩:=gv K hc k hk
  by_cases H:l[k].1=s
  ·right
   rw[if_pos H]at F
   simp only[Option.map_some,Nat.zero_add]at F
   simp only[qA,seval,mK,h0,h1,h5,K.lenI,I,J,H]
   refine⟨_,_,ad8,rfl,by rw[O,F];rfl,fun i hi=> ?_,rfl,rfl⟩
   rw[F]at hi
   cases hi
   simp only[qA,seval]
  ·left
   simp only[qA,seval,mK,h0,h1,h5,K.lenI,I,J,H,V]
   refine⟨_,rfl,_,rfl, ?_, ?_, ?_,by omega, ?_⟩
   all_goals first|(simp only[qA,seval,h0,h1];done)|skip
   grind
 ·rintro _ ⟨fr,rfl,h0,h1,h5,D,Af⟩
  have F:=yW l.length D Af
  rw[List.drop_length,fu]at F
  simp only[qA,seval,mK,h0,h5,K.lenI,Int.lt_irrefl]
  grind
def ahm(l:Cs)(s:List Nat)(a:T)(F:List T)(H:IsSl a l.length F)(hc:dc l F)(hs:l.length≤jA):ae pE 106 [a,.s s] []=some (qi (acK l s),[]):=by
 have r:=fun fr lh sh=>aC9 l s a F H hc hs _ rfl fr lh sh
 rw[au aiS (by simp[RG])]
 cases D:fu l s with
 |none=>
  rw[UG D]
  simp only[D,if_true,reduceCtorEq,false_implies,implies_true,true_and]at r
  simp only[qA,seval,RG,r]
 |some i=>
  rw[FM D]
  simp only[D,reduceCtorEq,if_false,Option.some.injEq,forall_eq']at r
  simp only[qA,seval,RG,r]
def OO(ts:List Int):Except Int (List Int)→Except Int (List Int)
 | .error e=> .error e
 | .ok us=> .ok (ts++us)
def aq2:Except Int (List Int)→Out
 | .error _=> .ret
 | .ok _=> .ext 0
theorem acL{cl:List Nat→Int×Int}{scope:Int}{xs:List Ex}{k:Nat}(hk:k<xs.length):lC cl scope (xs.drop k)=if(xs[k].ty cl scope).2≠0 then .error (xs[k].ty cl scope).2 else OO [(xs[k].ty cl scope).1] (lC cl scope (xs.drop (k+1))):=by
 rw[UE hk,lC]
 split
 ·rfl
 ·cases lC cl scope (xs.drop (k+1)) <;> rfl
theorem UH(a b:List Int)(x:Except Int (List Int)):OO a (OO b x)=OO (a++b) x:=by cases x <;> simp[OO]
theorem xc{cl:List Nat→Int×Int}{scope:Int}: ∀{xs:List Ex} {ts:List Int},lC cl scope xs= .ok ts→ts.length=xs.length
 | [],ts,h=>by grind [lC]
 |x::xs,ts,h=>by
  rw[lC]at h
  split at h
  ·cases h
  ·cases hx:lC cl scope xs with
   |error e=>grind
   |ok us=>rw[hx]at h;cases h;simp[xc hx]
def abo{lh:aE ah}{sh:List ah}{v:T}{k n:Nat}{cs:List T}(h:aW lh v k 1 n cs)(r:n≤jA)(x:T)(ex:Bool):
  appW lh sh k 1 8 v (.sl [x] 1 ex)=some (UZ lh sh k 1 8 v (.sl [x] 1 ex),G6 lh sh k 1 8 v (.sl [x] 1 ex))∧aW (G6 lh sh k 1 8 v (.sl [x] 1 ex)) (UZ lh sh k 1 8 v (.sl [x] 1 ex)) k 1 (n+1) (cs++ [x])∧ ∀j,j≠k→ab (G6 lh sh k 1 8 v (.sl [x] 1 ex)) j=ab lh j:=
 aW.appW h (m:=0) (by rw[Cj];rfl) rfl (by unfold roomy;unfold jA at r;omega)
section
variable(l:Cs)(tab:List (Int×Int))(lT kT eT:T)(cl:List T)(hl:IsSl lT l.length cl)(hcl:dc l cl)(hlen:l.length≤jA)(aJT:tab.length=l.length)(hk:IsSl kT tab.length (ints (tab.map (·.1))))(he:IsSl eT tab.length (ints (tab.map (·.2))))
include hl hk he
include hcl hlen aJT
end
theorem rJ(l:Cs): ∀n,(ju l n).length=n
 |0=>rfl
 |n+1=>by rw[ju,List.length_append,rJ l n];rfl
theorem yY(l:Cs){n:Nat}(h:n<l.length):ju l (n+1)=ju l n++ [Hc (l.take n) (ju l n) l[n].2]:=by
 rw[ju];simp[List.getD_eq_getElem?_getD,List.getElem?_eq_getElem h]
def smC(l:Cs):Prop:= ∀c∈l,0≤c.2.nodes∧c.2.sm
theorem Ln(a:List Int)(x:Int):ints (a++ [x])=ints a++ [qi x]:=by simp[ints]
section
variable(l:Cs)(lT:T)(cl:List T)(hl:IsSl lT l.length cl)(hcl:dc l cl)(hlen:l.length≤jA)(tz:smC l)
include hl hcl hlen tz
end
theorem Dt{α:Type}: ∀(A R:List α) (j:Nat) (r:List α),splice (A++R) (A.length+j) r=A++splice R j r
 | [],R,j,r=>by simp
 |a::A,R,j,r=>by
  rw[List.cons_append,List.length_cons,show A.length+1+j=(A.length+j)+1 by omega,splice,Dt A R j r];rfl
theorem zZ{α:Type}: ∀(z R r:List α),r.length=z.length→splice (z++R) 0 r=r++R
 | [],R,[],_=>by cases R <;> rfl
 |c::z,R,v::r,h=>by simp_all[List.cons_append,splice,zZ]
theorem Du{α:Type}(A z R r:List α)(k:Nat)(hk:A.length=k)(h:r.length=z.length):splice (A++(z++R)) k r=(A++r)++R:=by
 have:=Dt A (z++R) 0 r
 simp_all[Nat.add_zero,zZ,List.append_assoc]
theorem yZ{α:Type}(z:List α)(n:Nat):repl z (n+1)=z++repl z n:=rfl
theorem Dv{α:Type}(z:List α): ∀n,(repl z n).length=n*z.length
 |0=>by simp[repl]
 |n+1=>by rw[yZ,List.length_append,Dv z n,Nat.succ_mul,Nat.add_comm]
def bE(l:Cs):Nat→List (List Nat×Nat)
 |0=> []
 |n+1=>match aP (bE l n) (l.getD n ([],.mk 0 0 [] [])).1 with
  |none=>bE l n++ [((l.getD n ([],.mk 0 0 [] [])).1,n)]
  |some _=>bE l n
theorem ze(l:Cs){n:Nat}(h:n<l.length):bE l (n+1)=match aP (bE l n) l[n].1 with
  |none=>bE l n++ [(l[n].1,n)]
  |some _=>bE l n:=by
 rw[bE];simp[List.getD_eq_getElem?_getD,List.getElem?_eq_getElem h]
theorem F2(s:List Nat)(c:List Nat×Ex): ∀l:Cs,fu (l++ [c]) s=match fu l s with|some i=>some i|none=>if c.1=s then some l.length else none
 | []=>by simp[fu]
 |d::l=>by
  rw[List.cons_append,fu,fu,F2 s c l]
  grind
theorem sO(l:Cs)(s:List Nat): ∀n,n≤l.length→aP (bE l n) s=fu (l.take n) s
 |0,_=>by simp[bE,aP,fu]
 |n+1,h=>by
  have r:n<l.length:=zV
  rw[ze l r,List.take_succ_eq_append_getElem r,F2]
  have ih:=sO l s n zV
  have D:=sO l l[n].1 n zV
  grind [lZ,List.length_take,Nat.min_eq_left,hi]
def sK(s:List Nat):T:= .s s
def nK(n:Nat):T:= qi (n:Int)
def iV(n:Int):T:= qi n
def D7(a b:List Nat):sS (.one .str) (sK a) (sK b)=some (decide (a=b)):=aBh
def aii(a b:Nat):sS (.one .int) (nK a) (nK b)=some (decide (a=b)):=by
 grind [nK,aBi]
def uA(lT:T)(m:List (List Nat×Nat))(kn:List (Nat×Int)):List ah:=
 [⟨1,.map (m.map fun p=>sK p.1) (m.map fun p=>nK p.2) false⟩,⟨1,.map (kn.map fun p=>nK p.1) (kn.map fun p=>iV p.2) false⟩,⟨1,.cells [lT,.mp .S 0 1,.mp .S 1 1] 0 true⟩]
section
variable(lT:T)(m:List (List Nat×Nat))(kn:List (Nat×Int))
theorem ch0:aI (uA lT m kn) 0=⟨1,.map (m.map fun p=>sK p.1) (m.map fun p=>nK p.2) false⟩:=nr rfl
theorem ch1:aI (uA lT m kn) 1=⟨1,.map (kn.map fun p=>nK p.1) (kn.map fun p=>iV p.2) false⟩:=nr rfl
theorem ch2:aI (uA lT m kn) 2=⟨1,.cells [lT,.mp .S 0 1,.mp .S 1 1] 0 true⟩:=nr rfl
theorem aJV(r:List (List Nat×Nat)):bI (uA lT m kn) 0 ⟨1,.map (r.map fun p=>sK p.1) (r.map fun p=>nK p.2) false⟩=uA lT r kn:=nr rfl
theorem aJW(r:List (Nat×Int)):bI (uA lT m kn) 1 ⟨1,.map (r.map fun p=>nK p.1) (r.map fun p=>iV p.2) false⟩=uA lT m r:=nr rfl
theorem aDb:uA lT [] []= [⟨1,.map [] [] false⟩,⟨1,.map [] [] false⟩,⟨1,.cells [lT,.mp .S 0 1,.mp .S 1 1] 0 true⟩]:=nr rfl
end
def Vg(r:Option Nat):T:=match r with|some v=> .tup [nK v,.b true]|none=> .tup [qi 0,.b false]
def lkS(m:List (List Nat×Nat))(s:List Nat):iN (.one .str) (m.map fun p=>sK p.1) (m.map fun p=>nK p.2) (.s s) (qi 0) true=some (Vg (aP m s)):=by
 have:=aoX (kT:=sK) (vT:=nK) D7 (fun _=>rfl) m s (qi 0)
 rw[show(T.s s)=sK s from rfl,this];unfold Vg;cases aP m s <;> rfl
section
variable(l:Cs)(lT:T)(cl:List T)(hl:IsSl lT l.length cl)(hcl:dc l cl)(hlen:l.length≤jA)
include hl hcl hlen
def aJX(fr:Fr)(lh:aE ah)(sh:List ah)(V:sh=uA lT [] [])
  (h3:aa fr 3= .ptr .S 2 1 0) (F:aa fr 13=lT) (D:aa fr 14= qi (l.length:Int)) (H:aa fr 15= qi 0):
  qz 41 pf fr lh sh (.ext 0)∧
  (je pE 41 pf fr lh sh=uA lT (bE l l.length) []):=by
 refine cq (P:=fun Y aN W=>W=uA lT (bE l l.length) [])
  (cY (fun k st=> ∃(fr:Fr) (N:aE ah),st=⟨fr,N,uA lT (bE l k) []⟩∧aa fr 3= .ptr .S 2 1 0∧aa fr 13=lT∧aa fr 14= qi (l.length:Int)∧aa fr 15= qi (k:Int)) _ l.length ?_ ?_ 0 _ (Nat.zero_le _) ⟨fr,lh,by rw[V];rfl,h3,F,D,H⟩)
 ·rintro k _ hk ⟨fr,N,rfl,h3,F,D,H⟩
  left
  have J:(k:Int)<l.length:=zV
  have U:=bn (k:=k) zV
  obtain⟨b,Z,r,K,fg,sH,hb⟩:=gv hl hcl k hk
  have I:=lkS (bE l k) l[k].1
  rw[ze l hk]
  cases O:aP (bE l k) l[k].1 with
  |some i=>
   rw[O]at I
   unfold Vg at I
   simp only[qA,seval,bg,aH,dA,pf,h3,F,D,H,J,K,U,ch2,ch0,bZ,I]
   refine⟨_,rfl,_,_,rfl, ?_, ?_, ?_, ?_⟩ <;> simp only[qA,seval,h3,F,D]
  |none=>
   rw[O]at I
   unfold Vg at I
   have X:l8 (.one .str) (.s l[k].1) (qi (k:Int)) ((bE l k).map fun p=>sK p.1) ((bE l k).map fun p=>nK p.2)=_:=wz (kT:=sK) (vT:=nK) D7 (bE l k) l[k].1 k O
   simp only[qA,seval,bg,aH,dA,pf,h3,F,D,H,J,K,U,ch2,ch0,bZ,I,zP,X,aJV]
   refine⟨_,rfl,_,_,rfl, ?_, ?_, ?_, ?_⟩ <;> simp only[qA,seval,h3,F,D]
 ·rintro _ ⟨fr,N,rfl,h3,F,D,H⟩
  simp only[qA,seval,pf,D,H,Int.lt_irrefl]
  grind
def acr:ae pE 131 [lT] []=some (.ptr .S 2 1 0,uA lT (bE l l.length) []):=by
 have r:=fun fr lh sh=>aJX l lT cl hl hcl hlen fr lh sh
 rw[aDb]at r
 rw[au W3 (by simp[VK])]
 simp only[qA,seval,eO,dA,VK,RP,hl.lenI,hl.cells,hl.noTup,hl.kept1,r]
end
theorem L3(l:Cs)(n:Nat): ∀k,∃r,ju l (n+k)=ju l n++r
 |0=>⟨[],by simp⟩
 |k+1=>by
  obtain⟨r,h⟩:=L3 l n k
  grind [Nat.add_assoc,ju]
theorem Dw(l:Cs){n i:Nat}(D:n≤l.length)(hi:i<n):(ju l n).getD i (0,6)=(ju l l.length).getD i (0,6):=by
 obtain⟨r,h⟩:=L3 l n (l.length-n)
 grind [rJ,hi]
def tj(l:Cs)(i:Nat):Int×Int:=(ju l l.length).getD i (0,6)
theorem H9(l:Cs){i:Nat}(hi:i<l.length):tj l i=Hc (l.take i) (ju l i) l[i].2:=by
 unfold tj
 rw[←Dw l (n:=i+1) zV zV,yY l hi,List.getD_eq_getElem?_getD,List.getElem?_append_right (by rw[rJ];omega),rJ,Nat.sub_self]
 rfl
def aq3{cl:List Nat→Int×Int}(hcl: ∀s,(cl s).2≠0→(cl s).1=0)(scope:Int)(x:Ex)(h:(x.ty cl scope).2≠0):(x.ty cl scope).1=0:=by
 grind [Ex.ty_eq]
def aij(l:Cs)(tab:List (Int×Int))(h: ∀t∈tab,t.2≠0→t.1=0)(s:List Nat):(clk l tab s).2≠0→(clk l tab s).1=0:=by
 grind [clk]
theorem Dx(l:Cs): ∀n,∀t∈ju l n,t.2≠0→t.1=0
 |0=>by simp[ju]
 |n+1=>by
  intro t ht
  rw[ju]at ht
  rcases List.mem_append.1 ht with ht|ht
  ·exact Dx l n t ht
  ·rw[List.mem_singleton]at ht
   subst ht
   unfold Hc
   split
   ·intro _;rfl
   ·exact aq3 (aij _ _ (Dx l n)) _ _
section
variable(l:Cs)(lT:T)(cl:List T)(hl:IsSl lT l.length cl)(hcl:dc l cl)(hlen:l.length≤jA)(tz:smC l)
def xm(kn:List (Nat×Int)):Prop:= ∀i t,aP kn i=some t→i<l.length∧tj l i=(t,0)
def aq4(j:Nat):Prop:= ∀kn,xm l kn→ ∃r,ae pE 132 [.ptr .S 2 1 0,qi (j:Int)] (uA lT (bE l l.length) kn)=some (.tup [qi (tj l j).1,qi (tj l j).2],uA lT (bE l l.length) r)∧xm l r∧ ∀i,j<i→aP r i=aP kn i
def FX(n:Nat):List Nat→Int×Int:=clk (l.take n) (ju l n)
def aDd(n:Nat)(scope:Int)(y:Ex):Prop:= ∀kn,xm l kn→ ∀cs:List T,iD y cs→y.nodes≤100000→y.wf=true→ ∃r,ae pE 260 [.ptr .S 2 1 0,qi scope,qi (n:Int),.agg cs] (uA lT (bE l l.length) kn)=some (.tup [qi (y.ty (FX l n) scope).1,qi (y.ty (FX l n) scope).2],uA lT (bE l l.length) r)∧xm l r∧ ∀i,n≤i→aP r i=aP kn i
include hl
theorem aJY(n:Nat)(scope:Int)(xs:List Ex)(ih: ∀y∈xs,aDd l lT n scope y)(a:T)(cc:List T)(ha:IsSl a xs.length cc)(hx:cD xs cc)(hn:gm xs≤100000)(AR:Hb xs=true)(kn:List (Nat×Int))(jH:xm l kn)(r:Except Int (List Int))(hr:r=lC (FX l n) scope xs)(o:Out)(ho:o=aq2 r)(g:Nat)(c7:ah)(fr:Fr)(lh:aE ah)(sh:List ah)(fx:sh=uA lT (bE l l.length) kn)
  (h0:aa fr 0= .ptr .S 2 1 0) (h1:aa fr 1= qi scope) (h2:aa fr 2= qi (n:Int)) (N:aa fr 14= .isl .L 57 g 0 xs.length 1) (IQ:aa fr 59=a) (El:aa fr 60= qi (xs.length:Int)) (IS:aa fr 61= qi 0) (L4:ab lh 57=⟨g,.cells (repl [qi 0] xs.length) 0 false⟩) (J:ab lh 7=c7):
  qz 89 jg fr lh sh o∧
  ((∀e,r= .error e→aa (nM pE 89 jg fr lh sh) 8= qi 0∧aa (nM pE 89 jg fr lh sh) 9= qi e)∧(∀ts,r= .ok ts→ab (iL pE 89 jg fr lh sh) 57=⟨g,.cells (ints ts) 0 false⟩)∧
    ab (iL pE 89 jg fr lh sh) 7=c7∧ ∃I,je pE 89 jg fr lh sh=uA lT (bE l l.length) I∧xm l I∧ ∀i,n≤i→aP I i=aP kn i):=by
 have _:=hl
 refine cq (P:=fun bL aN aR=>(∀e,r= .error e→aa bL 8= qi 0∧aa bL 9= qi e)∧(∀ts,r= .ok ts→ab aN 57=⟨g,.cells (ints ts) 0 false⟩)∧ab aN 7=c7∧ ∃I,aR=uA lT (bE l l.length) I∧xm l I∧ ∀i,n≤i→aP I i=aP kn i)
  (cY (fun k st=> ∃(fr:Fr) (O:aE ah) (ts:List Int) (KN:List (Nat×Int)),st=⟨fr,O,uA lT (bE l l.length) KN⟩∧aa fr 0= .ptr .S 2 1 0∧aa fr 1= qi scope∧aa fr 2= qi (n:Int)∧aa fr 14= .isl .L 57 g 0 xs.length 1∧aa fr 59=a∧aa fr 60= qi (xs.length:Int)∧aa fr 61= qi (k:Int)∧ab O 7=c7∧
    ab O 57=⟨g,.cells (ints ts++repl [qi 0] (xs.length-k)) 0 false⟩∧ts.length=k∧r=OO ts (lC (FX l n) scope (xs.drop k))∧xm l KN∧ ∀i,n≤i→aP KN i=aP kn i) _ xs.length ?_ ?_ 0 _ (Nat.zero_le _) ⟨fr,lh,[],kn,by rw[fx],h0,h1,h2,N,IQ,El,IS,J,by rw[L4];rfl,rfl,by rw[hr,List.drop_zero];cases lC (FX l n) scope xs <;> rfl,jH,fun _ _=>rfl⟩)
 ·rintro k _ Va ⟨fr,O,ts,KN,rfl,h0,h1,h2,N,IQ,El,IS,J,L4,F,D,OP,L5⟩
  have U:(k:Int)<xs.length:=zV
  have Yi:=gn xs
  have hyk:=mq (List.getElem_mem Va)
  have hw:=bn (k:=k) (iu zV)
  obtain⟨b,cb,rr,V,fg,sH,hb⟩:=nO ha hx k Va
  obtain⟨Qc,K,W,Od⟩:=ih xs[k] (List.getElem_mem Va) KN OP _ hb zV (AE.1 AR _ (List.getElem_mem Va))
  rw[acL Va]at D
  by_cases H:(xs[k].ty (FX l n) scope).2=0
  ·left
   rw[if_neg (by simp[H]),UH]at D
   generalize xs[k].ty (FX l n) scope=q at K H D
   obtain⟨X,q2⟩:=q
   simp only at K H D
   subst H
   have Ix:(ints ts++repl [qi 0] (xs.length-k)).length=xs.length:=by rw[List.length_append,eu,Dv,F];simp;omega
   have Y:splice (ints ts++repl [qi 0] (xs.length-k)) k [qi X]=ints (ts++ [X])++repl [qi 0] (xs.length-(k+1)):=by
    rw[show xs.length-k=(xs.length-(k+1))+1 by omega,yZ,Du (ints ts) [qi 0] _ [qi X] k (by rw[eu];exact F) rfl,Ln]
   have Z:k+1≤xs.length:=zV
   simp only[qA,seval,dA,jg,h0,h1,h2,N,IQ,El,IS,L4,U,V,hw,K,XH,fg.kept1,Va,Ix,Y,Z]
   refine⟨_,rfl,_,_,ts++ [X],Qc,rfl, ?_, ?_, ?_, ?_, ?_, ?_, ?_, ?_, ?_,by simp[F],D,W,fun i hi=>by rw[Od i hi,L5 i hi]⟩
   all_goals first|(simp only[qA,seval,h0,h1,h2,N,IQ,El,J];done)|skip
  ·right
   rw[if_pos (by simp[H])]at D
   generalize xs[k].ty (FX l n) scope=q at K H D
   obtain⟨X,q2⟩:=q
   simp only at K H D
   simp only[qA,seval,dA,jg,h0,h1,h2,IQ,El,IS,U,V,K,XH,fg.kept1,H]
   refine⟨_,_,ad8,rfl,by rw[ho,D];rfl,fun e he=> ?_,fun t ht=>(by rw[D]at ht;cases ht),by simp only[qA,seval,J],Qc,rfl,W,fun i hi=>by rw[Od i hi,L5 i hi]⟩
   rw[D]at he
   cases he
   exact⟨by simp only[qA,seval],by simp only[qA,seval]⟩
 ·rintro _ ⟨fr,O,ts,KN,rfl,h0,h1,h2,N,IQ,El,IS,J,L4,F,D,OP,L5⟩
  rw[List.drop_length,lC,OO,List.append_nil]at D
  rw[Nat.sub_self,show repl [qi 0] 0= []from rfl,List.append_nil]at L4
  simp only[qA,seval,jg,El,IS,Int.lt_irrefl]
  refine⟨_,_,tS,rfl,by rw[ho,D];rfl,fun e he=>(by rw[D]at he;cases he),fun t ht=> ?_,J,KN,rfl,OP,L5⟩
  grind
include hcl hlen
theorem aq6(n:Nat)(MW:n≤l.length)(hc: ∀j,j<n→aq4 l lT j)(scope:Int)(x:Ex):aDd l lT n scope x:=by
 have _:=hlen
 have _:=hcl
 induction x using Ex.ind with
 |h x ih=>
  intro kn jH cs hx hn AR
  obtain⟨a,cc,rfl,Z,Vb⟩:=hx.cells
  rw[au akC (by simp[Bx]),Ex.ty_eq]
  have hnd:=x.nodes_eq
  rw[Ex.wf_eq,Bool.and_eq_true]at AR
  obtain⟨Af,Ae⟩:=AR
  have dk:=Kz scope x.name
  have Au:=gn x.args
  have Eg:x.args.length≤jA:=iu zV
  simp only[ri,Bool.and_eq_true,decide_eq_true_eq]at Af
  obtain⟨aJZ,aJ0,fj,_,_⟩:=Af
  by_cases h6:x.op=6
  ·rw[if_pos h6]
   unfold rh at dk
   by_cases J:dI scope x.name=0
   ·rw[if_neg (by simp[J])]
    rw[if_pos J,J]at dk
    have K:=lkS (bE l l.length) x.name
    rw[sO l x.name l.length (Nat.le_refl _),List.take_length]at K
    have zx:FX l n x.name=match fu l x.name with|some i=>if i<n then tj l i else(0,6)|none=>(0,6):=by
     unfold FX clk
     rw[yX]
     cases hi:fu l x.name with
     |none=>rfl
     |some i=>
      simp only
      by_cases N:i<n
      ·rw[if_pos N,if_pos N];exact Dw l MW N
      ·grind
    rw[zx]
    cases hi:fu l x.name with
    |none=>
     rw[hi]at K
     unfold Vg at K
     simp only[qA,seval,Bx,h6,dk,Sz,ch2,ch0,bZ,K]
     grind
    |some i=>
     rw[hi]at K
     rw[show Vg (some i)= .tup [qi (i:Int),.b true]from rfl]at K
     by_cases N:i<n
     ·obtain⟨r,aC,jD,ail⟩:=hc i N kn jH
      have O:(i:Int)<n:=zV
      simp only[N,if_true]
      simp only[qA,seval,dA,Bx,h6,dk,Sz,ch2,ch0,bZ,K,O,aC,ajf]
      grind
     ·have O: ¬(i:Int)<n:=zV
      simp only[N,if_false]
      simp only[qA,seval,Bx,h6,dk,Sz,ch2,ch0,bZ,K,O]
      grind
   ·rw[if_pos J]
    rw[if_neg J]at dk
    simp only[qA,seval,Bx,h6,dk,Sz]
    grind
  ·rw[if_neg h6]
   have V:=fun c7 fr lh sh F h0 h1 h2 H IQ El IS L4 I=>aJY l lT cl hl n scope x.args (fun y hy=>ih y hy) a cc Z Vb zV Ae kn jH _ rfl _ rfl 1 c7 fr lh sh F h0 h1 h2 H IQ El IS L4 I
   have U:x.args.length*8≤roomy∧x.args.length≤roomy:=by unfold jA at Eg;unfold roomy;omega
   have hS:=fun c7 fr lh sh F h0 h1 h2 H IQ El IS L4 I=>(V c7 fr lh sh F h0 h1 h2 H IQ El IS L4 I).2.2.2.2
   cases hr:lC (FX l n) scope x.args with
   |error e=>
    have D:=fun c7 fr lh sh F h0 h1 h2 H IQ El IS L4 I=>And.intro (V c7 fr lh sh F h0 h1 h2 H IQ El IS L4 I).1 ((V c7 fr lh sh F h0 h1 h2 H IQ El IS L4 I).2.1 e hr)
    simp only[hr,aq2]at D
    simp only[qA,seval,Bx,h6,Z.lenI,U,D]
    generalize W:je _ _ _ _ _ _=X
    obtain⟨r,e1,e2,e3⟩: ∃r,X=uA lT (bE l l.length) r∧xm l r∧ ∀i,n≤i→aP r i=aP kn i:=by
     rw[←W]
     refine hS _ _ _ _ rfl ?_ ?_ ?_ ?_ ?_ ?_ ?_ ?_ rfl <;> simp only[qA,seval]
    grind
   |ok ts=>
    have Rr:=xc hr
    have D:=fun c7 fr lh sh F h0 h1 h2 H IQ El IS L4 I=>And.intro (V c7 fr lh sh F h0 h1 h2 H IQ El IS L4 I).1 (V c7 fr lh sh F h0 h1 h2 H IQ El IS L4 I).2.2.2.1
    have hF:=fun c7 fr lh sh F h0 h1 h2 H IQ El IS L4 I=>(V c7 fr lh sh F h0 h1 h2 H IQ El IS L4 I).2.2.1 ts hr
    have mF:(ints ts).length=x.args.length:=by rw[eu,Rr]
    have Y:List.take x.args.length (ints ts)=ints ts:=List.take_of_length_le zV
    simp only[hr,aq2]at D
    have DV:=ON x.op ts (.sl (ints ts) x.args.length false) (Or.inr ⟨false,by rw[Rr]⟩) (by rw[Rr];exact Eg) aJZ aJ0 h6 (by rw[Rr];exact fj)
    by_cases J:mr x.op ts=0
    ·rw[J]at DV
     simp only[qA,seval,Bx,EO,h6,Z.lenI,U,D ⟨1,.cells [qi x.op,qi x.num,.s x.name,a] 0 true⟩,hF ⟨1,.cells [qi x.op,qi x.num,.s x.name,a] 0 true⟩,DV,akO,J,mF,Y]
     generalize W:je _ _ _ _ _ _=X
     obtain⟨r,e1,e2,e3⟩: ∃r,X=uA lT (bE l l.length) r∧xm l r∧ ∀i,n≤i→aP r i=aP kn i:=by
      rw[←W]
      refine hS _ _ _ _ rfl ?_ ?_ ?_ ?_ ?_ ?_ ?_ ?_ rfl <;> simp only[qA,seval]
     grind
    ·simp only[qA,seval,Bx,EO,h6,Z.lenI,U,D ⟨1,.cells [qi x.op,qi x.num,.s x.name,a] 0 true⟩,hF ⟨1,.cells [qi x.op,qi x.num,.s x.name,a] 0 true⟩,DV,akO,J,mF,Y]
     generalize W:je _ _ _ _ _ _=X
     obtain⟨r,e1,e2,e3⟩: ∃r,X=uA lT (bE l l.length) r∧xm l r∧ ∀i,n≤i→aP r i=aP kn i:=by
      rw[←W]
      refine hS _ _ _ _ rfl ?_ ?_ ?_ ?_ ?_ ?_ ?_ ?_ rfl <;> simp only[qA,seval]
     grind
end
theorem iG{x:Ex}(r:bM x=0):x.wf=true:=by
 unfold bM at r
 by_cases D:big x
 ·rw[if_pos D]at r;cases r
 ·rw[if_neg D]at r
  cases hx:x.wf with
  |true=>rfl
  |false=>rw[hx]at r;cases r
section
variable(l:Cs)(lT:T)(cl:List T)(hl:IsSl lT l.length cl)(hcl:dc l cl)(hlen:l.length≤jA)(tz:smC l)
include hl hcl hlen
def LX(n:Nat)(scope:Int)(x:Ex):Int×Int:=if bM x≠0 then(0,bM x)else x.ty (FX l n) scope
theorem Oz(n:Nat)(MW:n≤l.length)(hc: ∀j,j<n→aq4 l lT j)(scope:Int)(x:Ex)(cs:List T)(hx:iD x cs)(J:0≤x.nodes)(hs:x.sm)(kn:List (Nat×Int))(I:xm l kn):
  ∃F,ae pE 217 [.ptr .S 2 1 0,qi scope,qi (n:Int),.agg cs] (uA lT (bE l l.length) kn)=some (.tup [qi (LX l n scope x).1,qi (LX l n scope x).2],uA lT (bE l l.length) F)∧xm l F∧ ∀i,n≤i→aP F i=aP kn i:=by
 have r:=fun z fr lh sh=>oO (z:=z) (fr:=fr) (lh:=lh) (sh:=sh) x cs hx J hs
 have H:=fun h=>aq6 l lT cl hl hcl hlen n MW hc scope x kn I cs hx h
 obtain⟨a,O,rfl,K,Vb⟩:=hx.cells
 rw[au XD (by simp[Sg])]
 unfold LX
 by_cases D:bM x=0
 ·rw[if_neg (by simp[D])]
  obtain⟨F,N,h2,h3⟩:=H (by have:=acH D;omega) (iG D)
  rw[D]at r
  simp only[qA,seval,dA,Sg,r,N,XH,K.kept1]
  exact⟨F,rfl,h2,h3⟩
 ·rw[if_pos D]
  generalize bM x=e at r D ⊢
  simp only[qA,seval,Sg,r,D]
  exact⟨kn,rfl,I,fun _ _=>rfl⟩
include tz
def OA: ∀j,j<l.length→aq4 l lT j:=by
 intro j
 induction j using Nat.strongRecOn with
 |ind j ih=>
  intro K kn U
  obtain⟨b,cb,r,N,W,sH,Z⟩:=gv hl hcl j K
  obtain⟨zX,V⟩:=tz l[j] (List.getElem_mem K)
  obtain⟨H,I,X,F⟩:=Oz l lT cl hl hcl hlen j zV (fun i hi=>ih i hi zV) 0 l[j].2 _ Z zX V kn U
  have DX:tj l j=LX l j 0 l[j].2:=by rw[H9 l K];rfl
  rw[←DX]at I
  have D:(tj l j).2≠0→(tj l j).1=0:=by
   unfold tj
   rw[List.getD_eq_getElem?_getD,List.getElem?_eq_getElem (by rw[rJ];exact K)]
   exact Dx l _ _ (List.getElem_mem _)
  have J:iN (.one .int) (kn.map fun p=>nK p.1) (kn.map fun p=>iV p.2) (qi (j:Int)) (qi 0) true=_:=aoX (kT:=nK) (vT:=iV) aii (fun _=>rfl) kn j (qi 0)
  rw[au aje (by simp[MC])]
  cases O:aP kn j with
  |some t=>
   obtain⟨_,ht⟩:=U j t O
   rw[O]at J
   simp only[show iV t= qi t from rfl]at J
   rw[ht]
   simp only[qA,seval,MC,ch2,ch1,bZ,J]
   exact⟨kn,rfl,U,fun _ _=>rfl⟩
  |none=>
   rw[O]at J
   generalize he:tj l j=q at I D ⊢
   obtain⟨Y,q2⟩:=q
   simp only at I D ⊢
   by_cases h0:q2=0
   ·subst h0
    have Af:aP H j=none:=by rw[F j (Nat.le_refl _),O]
    have jo:l8 (.one .int) (qi (j:Int)) (qi Y) (H.map fun p=>nK p.1) (H.map fun p=>iV p.2)=_:=wz (kT:=nK) (vT:=iV) aii H j Y Af
    simp only[qA,seval,dA,MC,ch2,ch1,bZ,J,N,W.kept1,I,EV,alk,jo,aJW]
    refine⟨_,rfl, ?_, ?_⟩
    ·intro i t hi
     rw[lZ]at hi
     cases Ax:aP H i with
     |some u=>rw[Ax]at hi;cases hi;exact X i _ Ax
     |none=>
      rw[Ax]at hi
      simp only at hi
      split at hi
      ·rename_i e;subst e;cases hi;exact⟨K,he⟩
      ·cases hi
    ·intro i hi
     rw[lZ,F i zV]
     cases aP kn i with
     |some u=>rfl
     |none=>simp only;rw[if_neg zV]
   ·rw[D h0]
    rw[D h0]at I
    simp only[qA,seval,dA,MC,ch2,ch1,bZ,J,N,W.kept1,I,EV,h0]
    exact⟨H,rfl,X,fun i hi=>F i zV⟩
end
def bd(n:Int):Prop:= -1099511627776≤n∧n≤1099511627776
theorem lG{x y:Bool}:sS (.one .bool) (.b x) (.b y)=some (x==y):=rfl
def sP(n:Int):bd (bA n):=by unfold bd bA;omega
theorem F3{n:Int}(h:bd n):bA n=n:=by unfold bd at h;unfold bA;omega
theorem F4(n:Int):(if(if n<1099511627776 then n else(1099511627776:Int))> -1099511627776 then(if n<1099511627776 then n else(1099511627776:Int))else-1099511627776)=bA n:=by
 unfold bA;split <;> split <;> omega
def zg(n:Int):ae pE 145 [qi n] []=some (qi (bA n),[]):=by
 rw[au ajs (by simp[VQ]),←F4]
 simp only[qA,seval,VQ]
def UI(n:Int):ae pE 179 [qi n] []=some (qi (bA n),[]):=by
 rw[au Xq (by simp[MF]),←F4]
 simp only[qA,seval,MF]
def acM{a b:Int}(r:bd a)(D:bd b):wr .i64 (a+b)=a+b:=by unfold bd at *; exact aZ ⟨by omega,by omega⟩
theorem Ia{a:Int}(r:bd a):wr .i64 (0-a)= -a:=by unfold bd at *; rw[aZ ⟨by omega,by omega⟩];omega
theorem uB{a:Int}(r:bd a):bd (-a):=by unfold bd at *; omega
def Ib{a b:Int}(F:bd a)(H:bd b):ae pE 148 [qi a,qi b] []=some (qi (bA (a+b)),[]):=by
 have D:=acM F H
 have hc:=zg (a+b)
 clear F H
 rw[au ajt (by simp[JA])]
 by_cases h1:0≤a
 ·have r: ¬a<0:=zV
  by_cases h2:0≤b
  ·have h3: ¬a+b<0:=zV
   simp only[qA,seval,JA,D,hc,JG,h1,r,h2,h3]
  ·simp only[qA,seval,JA,D,hc,JG,h1,r,h2]
 ·have r:a<0:=zV
  by_cases h2:b<0
  ·have h3: ¬0≤a+b:=zV
   simp only[qA,seval,JA,D,hc,JG,h1,r,h2,h3]
  ·simp only[qA,seval,JA,D,hc,JG,h1,r,h2]
theorem Ic{a b:Int}(F:bd a)(H:bd b):ae pE 180 [qi a,qi b] []=some (qi (bA (a+b)),[]):=by
 have D:=acM F H
 have hc:=UI (a+b)
 clear F H
 rw[au Xr (by simp[Gj])]
 by_cases h1:0<a
 ·have r: ¬a<0:=zV
  by_cases h2:0<b
  ·have h3: ¬a+b<0:=zV
   simp only[qA,seval,Gj,D,hc,BA,h1,r,h2,h3]
  ·simp only[qA,seval,Gj,D,hc,BA,h1,r,h2]
 ·by_cases r:a<0
  ·by_cases h2:b<0
   ·have h3: ¬0≤a+b:=zV
    simp only[qA,seval,Gj,D,hc,BA,h1,r,h2,h3]
   ·simp only[qA,seval,Gj,D,hc,BA,h1,r,h2]
  ·simp only[qA,seval,Gj,D,hc,BA,h1,r]
def acN{a:Int}(h:bd a)(h0: ¬a<0):wr .u64 a=(a.natAbs:Int):=by unfold bd at h;rw[mZ ⟨by omega,by omega⟩];omega
theorem aDg(n:Int):IntKind.wrap .u64 n=n%18446744073709551616:=by
 unfold IntKind.wrap
 have r:(IntKind.u64).bits=64:=rfl
 simp only[r]
 rw[if_neg (by simp[IntKind.signed])]
 rfl
theorem Ie(n:Int):wr .u64 n=n%18446744073709551616:=by
 show(if(0:Int)≤n∧n≤18446744073709551615 then n else IntKind.wrap .u64 n)=_
 rw[aDg]
 split <;> omega
def Rs{a:Int}(h:bd a)(h0:a<0):wr .u64 (0-wr .u64 a)=(a.natAbs:Int):=by
 unfold bd at h
 rw[Ie,Ie];omega
def Rt{a:Int}(h:bd a):ae pE 267 [qi a] []=some (.i .u64 (a.natAbs:Int),[]):=by
 rw[au akH (by simp[Sn])]
 by_cases h0:a<0
 ·have r:=Rs h h0
  simp only[qA,seval,Sn,h0,r]
 ·have r:=acN h h0
  simp only[qA,seval,Sn,h0,r]
def A9{a:Int}(h:bd a):ae pE 244 [qi a] []=some (.i .u64 (a.natAbs:Int),[]):=by
 rw[au aku (by simp[Sl])]
 by_cases h0:a<0
 ·have r:=Rs h h0
  simp only[qA,seval,Sl,h0,r]
 ·have r:=acN h h0
  simp only[qA,seval,Sl,h0,r]
def aDh(P Q R S:Int)(r:0≤P)(D:0≤Q)(F:0≤R)(H:0≤S):
  S+(Q+P/4294967296)/4294967296+((Q+P/4294967296)%4294967296+R)/4294967296=(S*18446744073709551616+(Q+R)*4294967296+P)/18446744073709551616:=by
 omega
def If{a b A B:Int}(D:0≤a)(r:0≤b)(F:a≤A)(H:b≤B):0≤a*b∧a*b≤A*B:=
 ⟨Int.mul_nonneg D r,Int.mul_le_mul F H r zV⟩
def acO(X Y:Nat)(hX:X≤1099511627776)(hY:Y≤1099511627776):ae pE 266 [.i .u64 (X:Int),.i .u64 (Y:Int)] []=some (.tup [.i .u64 ((X:Int)*Y/18446744073709551616),.i .u64 ((X:Int)*Y%18446744073709551616)],[]):=by
 obtain⟨x1,Mm⟩: ∃x1,x1=(X:Int)/4294967296:=⟨_,rfl⟩
 obtain⟨x0,W⟩: ∃x0,x0=(X:Int)%4294967296:=⟨_,rfl⟩
 obtain⟨r,MR⟩: ∃r,r=(Y:Int)/4294967296:=⟨_,rfl⟩
 obtain⟨D,Z⟩: ∃D,D=(Y:Int)%4294967296:=⟨_,rfl⟩
 have hX':(X:Int)=x1*4294967296+x0:=zV
 have hY':(Y:Int)=r*4294967296+D:=zV
 have F:0≤x1∧x1≤256:=zV
 have H:0≤x0∧x0≤4294967295:=zV
 have I:0≤r∧r≤256:=zV
 have J:0≤D∧D≤4294967295:=zV
 have Iv:(X:Int)*Y=x1*r*18446744073709551616+(x1*D+x0*r)*4294967296+x0*D:=by
  grind
 have N:=If H.1 J.1 H.2 J.2
 have O:=If F.1 J.1 F.2 J.2
 have U:=If H.1 I.1 H.2 I.2
 have V:=If F.1 I.1 F.2 I.2
 have w0:wr .u64 (x0*D)=x0*D:=mZ ⟨N.1,Int.le_trans N.2 zz⟩
 have w1:wr .u64 (x1*D)=x1*D:=mZ ⟨O.1,Int.le_trans O.2 zz⟩
 have w2:wr .u64 (x0*r)=x0*r:=mZ ⟨U.1,Int.le_trans U.2 zz⟩
 have w3:wr .u64 (x1*r)=x1*r:=mZ ⟨V.1,Int.le_trans V.2 zz⟩
 have K:=aDh (x0*D) (x1*D) (x0*r) (x1*r) N.1 O.1 U.1 V.1
 rw[←Iv]at K
 have wlo:=Ie ((X:Int)*Y)
 rw[au akG (by simp[WI]),←K]
 generalize hP:x0*D=P at N w0
 generalize hQ:x1*D=Q at O w1
 generalize hR:x0*r=R at U w2
 generalize hS:x1*r=S at V w3
 have w4:wr .u64 (Q+P/4294967296)=Q+P/4294967296:=mZ ⟨by omega,by omega⟩
 have w5:wr .u64 ((Q+P/4294967296)%4294967296+R)=(Q+P/4294967296)%4294967296+R:=mZ ⟨by omega,by omega⟩
 have w6:wr .u64 (S+(Q+P/4294967296)/4294967296)=S+(Q+P/4294967296)/4294967296:=mZ ⟨by omega,by omega⟩
 have w7:wr .u64 (S+(Q+P/4294967296)/4294967296+((Q+P/4294967296)%4294967296+R)/4294967296)=S+(Q+P/4294967296)/4294967296+((Q+P/4294967296)%4294967296+R)/4294967296:=mZ ⟨by omega,by omega⟩
 simp only[qA,seval,WI,agC,agD,←W,←Mm,←Z,←MR,hP,hQ,hR,hS,w0,w1,w2,w3,w4,w5,w6,w7,wlo]
def Ig{a:Int}(h:bd a):a.natAbs≤1099511627776:=by grind [bd]
theorem Rv(a b:Int):(a.natAbs:Int)*(b.natAbs:Int)=((a*b).natAbs:Int):=by rw[Int.natAbs_mul];omega
def L6{a b:Int}(h:(a<0∧ ¬b<0)∨(¬a<0∧b<0)):a*b≤0:=by
 rcases h with⟨h1,h2⟩|⟨h1,h2⟩
 ·exact Int.mul_nonpos_of_nonpos_of_nonneg zV zV
 ·exact Int.mul_nonpos_of_nonneg_of_nonpos zV zV
def F5{a b:Int}(h:(a<0∧b<0)∨(¬a<0∧ ¬b<0)):0≤a*b:=by
 rcases h with⟨h1,h2⟩|⟨h1,h2⟩
 ·exact Int.mul_nonneg_of_nonpos_of_nonpos zV zV
 ·simp_all[Int.mul_nonneg]
def Rw{a b:Int}(N:bd a)(O:bd b):ae pE 227 [qi a,qi b] []=some (qi (bA (a*b)),[]):=by
 have h1:=Rt N
 have h2:=Rt O
 have h3:=acO a.natAbs b.natAbs (Ig N) (Ig O)
 rw[Rv]at h3
 have hs:= @L6 a b
 have I:= @F5 a b
 rw[au akg (by simp[sQ])]
 generalize hx:a*b=x at*
 generalize U:(x.natAbs:Int)/18446744073709551616=q1 at h3
 generalize V:(x.natAbs:Int)%18446744073709551616=q2 at h3
 have H:(if q1≠0 then(1099511627776:Int)else if 1099511627776<q2 then 1099511627776 else q2)=min (x.natAbs:Int) 1099511627776:=by
  grind
 by_cases D:q1=0
 ·by_cases F:(1099511627776:Int)<q2
  ·rw[if_neg (by simp[D]),if_pos F]at H
   by_cases r:a<0
   ·by_cases s2:b<0
    ·have:=I (.inl ⟨r,s2⟩)
     have e:bA x=1099511627776:=by unfold bA;omega
     simp only[qA,seval,sQ,h1,h2,h3,qk,qh,D,F,r,s2,lG,e];rfl
    ·have:=hs (.inl ⟨r,s2⟩)
     have e:bA x= -1099511627776:=by unfold bA;omega
     simp only[qA,seval,sQ,h1,h2,h3,qk,qh,D,F,r,s2,lG,e];rfl
   ·by_cases s2:b<0
    ·have:=hs (.inr ⟨r,s2⟩)
     have e:bA x= -1099511627776:=by unfold bA;omega
     simp only[qA,seval,sQ,h1,h2,h3,qk,qh,D,F,r,s2,lG,e];rfl
    ·have:=I (.inr ⟨r,s2⟩)
     have e:bA x=1099511627776:=by unfold bA;omega
     simp only[qA,seval,sQ,h1,h2,h3,qk,qh,D,F,r,s2,lG,e];rfl
  ·rw[if_neg (by simp[D]),if_neg F]at H
   have J:wr .i64 q2=q2:=aZ ⟨by omega,by omega⟩
   have K:wr .i64 (0-q2)= -q2:=by rw[aZ ⟨by omega,by omega⟩];omega
   by_cases r:a<0
   ·by_cases s2:b<0
    ·have:=I (.inl ⟨r,s2⟩)
     have e:bA x=q2:=by unfold bA;omega
     simp only[qA,seval,sQ,h1,h2,h3,qk,qh,D,F,r,s2,lG,J,K,e];rfl
    ·have:=hs (.inl ⟨r,s2⟩)
     have e:bA x= -q2:=by unfold bA;omega
     simp only[qA,seval,sQ,h1,h2,h3,qk,qh,D,F,r,s2,lG,J,K,e];rfl
   ·by_cases s2:b<0
    ·have:=hs (.inr ⟨r,s2⟩)
     have e:bA x= -q2:=by unfold bA;omega
     simp only[qA,seval,sQ,h1,h2,h3,qk,qh,D,F,r,s2,lG,J,K,e];rfl
    ·have:=I (.inr ⟨r,s2⟩)
     have e:bA x=q2:=by unfold bA;omega
     simp only[qA,seval,sQ,h1,h2,h3,qk,qh,D,F,r,s2,lG,J,K,e];rfl
 ·rw[if_pos D]at H
  by_cases r:a<0
  ·by_cases s2:b<0
   ·have:=I (.inl ⟨r,s2⟩)
    have e:bA x=1099511627776:=by unfold bA;omega
    simp only[qA,seval,sQ,h1,h2,h3,qk,qh,D,r,s2,lG,e];rfl
   ·have:=hs (.inl ⟨r,s2⟩)
    have e:bA x= -1099511627776:=by unfold bA;omega
    simp only[qA,seval,sQ,h1,h2,h3,qk,qh,D,r,s2,lG,e];rfl
  ·by_cases s2:b<0
   ·have:=hs (.inr ⟨r,s2⟩)
    have e:bA x= -1099511627776:=by unfold bA;omega
    simp only[qA,seval,sQ,h1,h2,h3,qk,qh,D,r,s2,lG,e];rfl
   ·have:=I (.inr ⟨r,s2⟩)
    have e:bA x=1099511627776:=by unfold bA;omega
    simp only[qA,seval,sQ,h1,h2,h3,qk,qh,D,r,s2,lG,e];rfl
theorem L7{a b:Int}(h:b≠0):Ev.bin .quo (.i .u64 a) (.i .u64 b)=some (.i .u64 (wr .u64 (a.tdiv b))):=by
 simp only[Ev.bin,if_true,mI,if_neg h]
theorem acP{a b:Int}(h:b≠0):Ev.bin .rem (.i .u64 a) (.i .u64 b)=some (.i .u64 (a.tmod b)):=by
 simp only[Ev.bin,if_true,mI,if_neg h]
theorem acQ{a b:Int}(h:b≠0):Ev.bin .quo (qi a) (qi b)=some (qi (wr .i64 (a.tdiv b))):=by
 simp only[Ev.bin,if_true,mI,if_neg h]
def acR{a b:Int}(h:b≠0):Ev.bin .rem (qi a) (qi b)=some (qi (a.tmod b)):=by
 simp only[Ev.bin,if_true,mI,if_neg h]
def aq8(x y:Nat)(r:0<y):((x:Int)≤(1099511627776:Int).tdiv (y:Int))↔(x:Int)*y≤1099511627776:=by
 have e:(1099511627776:Int).tdiv (y:Int)=((1099511627776/y:Nat):Int):=rfl
 rw[e]
 have:=Nat.le_div_iff_mul_le r (x:=x) (y:=1099511627776)
 have h2:(x:Int)*y=((x*y:Nat):Int):=yv
 rw[h2];omega
theorem ain{a b:Int}(J:bd a)(K:bd b):ae pE 181 [qi a,qi b] []=some (qi (bA (a*b)),[]):=by
 have h1:=A9 J
 have h2:=A9 K
 have hs:= @L6 a b
 have N:= @F5 a b
 have r:=Rv a b
 rw[au Xs (by simp[MG])]
 by_cases a0:a=0
 ·subst a0
  simp only[qA,seval,MG,Int.zero_mul];rfl
 by_cases I:b=0
 ·subst I
  simp only[qA,seval,MG,Int.mul_zero,a0];rfl
 have D:=aq8 a.natAbs b.natAbs zV
 have F:((b.natAbs:Nat):Int)≠0:=zV
 have H:Ev.bin .quo (.i .u64 1099511627776) (.i .u64 (b.natAbs:Int))=some (.i .u64 ((1099511627776:Int).tdiv (b.natAbs:Int))):=by
  rw[L7 F]
  have e:(1099511627776:Int).tdiv (b.natAbs:Int)=((1099511627776/b.natAbs:Nat):Int):=rfl
  rw[e,mZ ⟨Int.natCast_nonneg _,Int.le_trans (Int.ofNat_le.2 (Nat.div_le_self _ _)) zz⟩]
 rw[r]at D
 generalize (1099511627776:Int).tdiv (b.natAbs:Int)=q at D H
 generalize hx:a*b=x at*
 have O:x.natAbs≤1099511627776→wr .u64 (x.natAbs:Int)=(x.natAbs:Int):=fun h=>mZ ⟨by omega,by omega⟩
 have U:x.natAbs≤1099511627776→wr .i64 (x.natAbs:Int)=(x.natAbs:Int):=fun h=>aZ ⟨by omega,by omega⟩
 have V:x.natAbs≤1099511627776→wr .i64 (0-(x.natAbs:Int))= -(x.natAbs:Int):=fun h=>by rw[aZ ⟨by omega,by omega⟩];omega
 simp only[qB,seval,MG,h1,h2,akv,a0,I,H,r,lG]
 clear h1 h2 H
 unfold bA
 grind (splits:=30)
theorem bq1:((true==true) != false)=true:=nr rfl
theorem bq2:((false==false) != false)=true:=nr rfl
theorem bq3:((true==false) != false)=false:=nr rfl
theorem bq4:((false==true) != false)=false:=nr rfl
theorem bq5:((true==true) != true)=false:=nr rfl
theorem bq6:((false==false) != true)=false:=nr rfl
theorem bq7:((true==false) != true)=true:=nr rfl
theorem bq8:((false==true) != true)=true:=nr rfl
def UJ{a b:Int}(r:b≠0)(h:(a<0∧b<0)∨(¬a<0∧ ¬b<0)):a.fdiv b=((a.natAbs/b.natAbs:Nat):Int):=by
 rcases h with⟨h1,h2⟩|⟨h1,h2⟩
 ·rw[←Int.neg_fdiv_neg,Int.fdiv_eq_ediv_of_nonneg _ zV]
  have e1: -a=((a.natAbs:Nat):Int):=zV
  have e2: -b=((b.natAbs:Nat):Int):=zV
  rw[e1,e2];rfl
 ·rw[Int.fdiv_eq_ediv_of_nonneg _ zV]
  have e1:a=((a.natAbs:Nat):Int):=zV
  have e2:b=((b.natAbs:Nat):Int):=zV
  conv=>lhs;rw[e1,e2]
  rfl
theorem L8(x y:Nat):(x:Int).fdiv (y:Int)=((x/y:Nat):Int):=by rw[Int.fdiv_eq_ediv_of_nonneg _ zV];rfl
theorem Ba(x y:Nat):((y:Int)∣(x:Int))↔x%y=0:=by rw[Int.natCast_dvd_natCast];exact Nat.dvd_iff_mod_eq_zero
def upN(x y:Nat):Nat:=x/y+if 0<x%y then 1 else 0
def UK{a b:Int}(F:b≠0)(h:(a<0∧ ¬b<0)∨(¬a<0∧b<0)):a.fdiv b= -((upN a.natAbs b.natAbs:Nat):Int):=by
 unfold upN
 rcases h with⟨h1,h2⟩|⟨h1,h2⟩
 ·have e1:a= -((a.natAbs:Nat):Int):=zV
  have e2:b=((b.natAbs:Nat):Int):=zV
  have D:b.natAbs≠0:=zV
  generalize a.natAbs=x,b.natAbs=y at*
  subst e1 e2
  rw[Int.neg_fdiv,L8]
  by_cases r:x%y=0
  ·rw[if_pos (Or.inr ((Ba x y).2 r)),if_neg zV];omega
  ·rw[if_neg (by rintro(h|h)
                 ·omega
                 ·exact r ((Ba x y).1 h)),if_pos zV];omega
 ·have e1:a=((a.natAbs:Nat):Int):=zV
  have e2:b= -((b.natAbs:Nat):Int):=zV
  have D:((b.natAbs:Nat):Int)≠0:=zV
  generalize a.natAbs=x,b.natAbs=y at*
  subst e1 e2
  rw[Int.fdiv_neg D,L8]
  by_cases r:x%y=0
  ·rw[if_pos ((Ba x y).2 r),if_neg zV];omega
  ·rw[if_neg (fun h=>r ((Ba x y).1 h)),if_pos zV];omega
def OQ(a b:Int)(h:bd a):a.natAbs/b.natAbs≤1099511627776:=Nat.le_trans (Nat.div_le_self _ _) (Ig h)
theorem aio{a b:Int}(N:bd a)(U:bd b):ae pE 182 [qi a,qi b] []=some (qi (Hd a b),[]):=by
 have h1:=A9 N
 have h2:=A9 U
 rw[au Xt (by simp[R7])]
 unfold Hd
 by_cases D:b=0
 ·subst D
  simp only[qA,seval,R7]
 rw[if_neg D]
 have F:((b.natAbs:Nat):Int)≠0:=zV
 have H:=OQ a b N
 have O:Ev.bin .quo (.i .u64 (a.natAbs:Int)) (.i .u64 (b.natAbs:Int))=some (.i .u64 ((a.natAbs/b.natAbs:Nat):Int)):=by
  rw[L7 F]
  have e:(a.natAbs:Int).tdiv (b.natAbs:Int)=((a.natAbs/b.natAbs:Nat):Int):=rfl
  rw[e,mZ ⟨Int.natCast_nonneg _,Int.le_trans (Int.ofNat_le.2 H) zz⟩]
 have hr:Ev.bin .rem (.i .u64 (a.natAbs:Int)) (.i .u64 (b.natAbs:Int))=some (.i .u64 ((a.natAbs%b.natAbs:Nat):Int)):=by
  rw[acP F];rfl
 have V:= @UJ a b D
 have I:= @UK a b D
 unfold upN at I
 generalize a.natAbs/b.natAbs=q at*
 generalize a.natAbs%b.natAbs=r at*
 have J: ∀n:Nat,¬(1099511627776:Int)<(n:Int)→wr .i64 (n:Int)=(n:Int):=fun n h=>aZ ⟨by omega,by omega⟩
 have K: ∀n:Nat,¬(1099511627776:Int)<(n:Int)→wr .i64 (0-(n:Int))= -(n:Int):=fun n h=>by rw[aZ ⟨by omega,by omega⟩];omega
 have W: ¬(1099511627776:Int)<(q:Int):=zV
 have m3:wr .u64 ((q:Int)+1)=((q+1:Nat):Int):=by rw[mZ ⟨by omega,by omega⟩];omega
 have X:=J (q+1)
 have Y:=K (q+1)
 have Z:=J q
 have m7:=K q
 simp only[qB,seval,R7,h1,h2,akv,D,O,hr,lG,bq1,bq2,bq3,bq4,m3]
 clear h1 h2 O hr J K
 unfold bA
 grind (splits:=30)
def aip:bd (-1):=by unfold bd;omega
def aiq{a b:Int}(H:bd a)(V:bd b):ae pE 228 [qi a,qi b] []=some (qi (Hd a b),[]):=by
 have K:=Rw H aip
 rw[au aki (by simp[MI])]
 unfold Hd
 by_cases D:b=0
 ·subst D
  simp only[qA,seval,MI]
 rw[if_neg D]
 by_cases I:b= -1
 ·subst I
  have e:a.fdiv (-1)=a* -1:=by
   have:=Int.fdiv_neg (a:=a) (b:=1) zz
   rw[if_pos (Int.one_dvd a),Int.fdiv_one]at this
   rw[this];omega
  rw[e]
  simp only[qA,seval,MI,K,akh]
 have W:= @Int.fdiv_eq_tdiv a b
 have X:= @Int.dvd_iff_tmod_eq_zero b a
 have N:=Int.natAbs_tdiv_le_natAbs a b
 have O:=Ig H
 have F:Ev.bin .quo (qi a) (qi b)=some (qi (a.tdiv b)):=by
  rw[acQ D,aZ ⟨by omega,by omega⟩]
 have J:=acR (a:=a) D
 have FT:=zg (a.tdiv b)
 have AV:=zg (a.tdiv b-1)
 have U:wr .i64 (a.tdiv b-1)=a.tdiv b-1:=aZ ⟨by omega,by omega⟩
 generalize a.tdiv b=q at*
 generalize a.tmod b=r at*
 have e1:b<0→b.sign= -1:=Int.sign_eq_neg_one_of_neg
 have e2:0<b→b.sign=1:=Int.sign_eq_one_of_pos
 simp only[qB,seval,MI,D,I,F,J,FT,AV,JG,lG,bq5,bq6,bq7,bq8,U]
 clear FT AV F J
 grind (splits:=30)
def air(a b:Int):bd (Hd a b):=by
 unfold Hd
 split
 ·unfold bd;omega
 ·exact sP _
def bit(n:Int):Prop:=n=0∨n=1
def aq9{n:Int}(h:bit n):bd n:=by unfold bit at h;unfold bd;omega
def UL(b:Bool):bit (fQ b):=by cases b <;> simp[fQ,bit]
def OR(c f t:Int):ae pE 147 [qi c,qi f,qi t] []=some (.b (dD c f t),[]):=by
 rw[au W8 (by simp[RS])]
 unfold dD
 by_cases h1:f≤t
 ·by_cases h2:f≤c <;> by_cases h3:c<t <;> simp only[qA,seval,RS,h1,h2,h3]
 ·by_cases h2:f≤c <;> by_cases h3:c<t <;> simp only[qA,seval,RS,h1,h2,h3,or_true,or_false,or_self]
theorem OS(c f t:Int):ae pE 183 [qi c,qi f,qi t] []=some (.b (dD c f t),[]):=by
 have h:ae pE 173 [qi c,qi f,qi t] []=some (.b (dD c f t),[]):=by
  rw[au Xm (by simp[Gi])]
  unfold dD
  by_cases h1:f≤t
  ·by_cases h2:f≤c <;> by_cases h3:c<t <;> simp only[qA,seval,Gi,h1,h2,h3]
  ·by_cases h2:f≤c <;> by_cases h3:c<t <;> simp only[qA,seval,Gi,h1,h2,h3,or_true,or_false,or_self]
 rw[au Xu (by simp[V7])]
 simp only[qA,seval,V7,h,Xn]
theorem xf(b:Bool):ae pE 178 [.b b] []=some (qi (fQ b),[]):=by
 rw[au Xo (by simp[V6])]
 cases b <;> simp only[qA,seval,V6,fQ]
def xp(b:Bool):ae pE 146 [.b b] []=some (qi (fQ b),[]):=by
 rw[au W7 (by simp[VR])]
 cases b <;> simp only[qA,seval,VR,fQ]
def OT(op:Int):Int→List Int→Int:=if op=12 then ao3 else ao4
theorem Dy(op m v:Int)(r:List Int)(h:op=12∨op=13):OT op m (v::r)=OT op (if op=12 then min m v else max m v) r:=by
 unfold OT
 rcases h with rfl|rfl <;> rfl
theorem Ih(op m:Int):OT op m []=m:=by unfold OT;split <;> rfl
def aJ3(op num:Int)(BV:op=12∨op=13)(r:List Int)(K:0<r.length)(a:T)(H:IsSl a r.length (ints r))(hlen:r.length≤jA)(fr:Fr)(lh:aE ah)(sh:List ah)
  (h0:aa fr 0= qi op) (h2:aa fr 2=a) (N:aa fr 7= qi (a0 r)) (O:aa fr 8= qi 1):
  Lp pE 176 uI fr lh sh (.ext 1) fun f l s=>aa f 7= qi (OT op (a0 r) r.tail)∧l=lh∧s=sh:=by
 refine bK RH (fun k f l s=> ∃m,aa f 7= qi m∧aa f 8= qi ((k+1:Nat):Int)∧OT op m (r.drop (k+1))=OT op (a0 r) r.tail∧l=lh∧s=sh) (r.length-1) ⟨_,N,O,by simp,rfl,rfl⟩ ?_ ?_
 ·rintro k f _ _ hk D ⟨m,I,F,hx,rfl,rfl⟩
  have DM:k+1<r.length:=zV
  have J:((k+1:Nat):Int)<r.length:=zV
  have U:=bn (k:=k+1) zV
  rw[List.drop_eq_getElem_cons DM,Dy _ _ _ _ BV]at hx
  rcases BV with rfl|rfl <;> simp only[qB,seval,gd,uI,D,h0,h2,I,F,H.lenI,J,Dc H DM,U,lG,bq1,bq2,bq3,bq4] <;> clear D <;> grind
 ·rintro f _ _ D ⟨m,I,F,hx,rfl,rfl⟩
  rw[show r.length-1+1=r.length by omega]at hx F
  rw[List.drop_length,Ih]at hx
  simp only[qB,seval,gd,uI,D,h2,I,F,H.lenI,Int.lt_irrefl,hx]
def vOk(op:Int)(r:List Int):Prop:=(∀v∈r,bd v)∧((op=19∨op=20∨op=21∨op=22)→ ∀v∈r,bit v)∧(op=14→bit (a0 r))
def Uf(op num:Int)(r:List Int)(a:T)(D:IsSl a r.length (ints r))(hl:r.length≤jA)(h1:7≤op)(h2:op≤22)(F:dQ op r.length=true)(X:vOk op r):ae pE 107 [qi op,qi num,a] []=some (qi (DF op r),[]):=by
 rw[au WX (by simp[qO])]
 obtain⟨K,L9,N⟩:=X
 have O: ∀x H,r=x::H→(op=12∨op=13)→wo qO.res qO.eff (DC pE qO.n qO.code ⟨lI [qi op,qi num,a],.nil,[]⟩)=some (qi (OT op (a0 r) r.tail),[]):=by
  rintro x H rfl V
  have W:=fun fr lh sh=>aJ3 op num V (x::H) yv a D hl fr lh sh
  obtain⟨ex,rfl⟩:=oP D
  have Y:0<H.length+1:=Nat.succ_pos _
  have Z:a0 (x::H)=x:=rfl
  rw[Z]at W ⊢
  rcases V with rfl|rfl <;> simp only[qA,seval,cX,qO,Y,W]
 have sr:1≤op:=zV
 rcases xl sr h2 with rfl|rfl|rfl|rfl|rfl|rfl|rfl|rfl|rfl|rfl|rfl|rfl|rfl|rfl|rfl|rfl|rfl|rfl|rfl|rfl|rfl|rfl
 all_goals first
  |exact absurd h1 zz
  |(obtain⟨x,y,rfl⟩:=oQ (by simpa[dQ]using F);obtain⟨ex,rfl⟩:=oP D;have hx:=K x yv;have I:=K y yv;simp only[qA,seval,cX,bg,aH,qO,ints,Ic hx I,Ic hx (uB I),ain hx I,aio hx I,Ia I,xf,ajK,ayX,ayY,ayZ,ay0,ay1,Pf,Xp];rfl)
  |(match r,F with
     |x::ts,_=>exact O x ts rfl yv)
  |skip
 ·obtain⟨x,rfl⟩:=OL (by simpa[dQ]using F)
  obtain⟨ex,rfl⟩:=oP D
  have hx:=K x yv
  have h:=Ic (a:=0) (by unfold bd;omega) (uB hx)
  have J:=Ia hx
  rw[show(0:Int)+ -x= -x by omega,F3 (uB hx)]at h
  simp only[qA,seval,cX,qO,ints,J,h,ajK];rfl
 ·obtain⟨x,y,z,rfl⟩:=OM (by simpa[dQ]using F)
  obtain⟨ex,rfl⟩:=oP D
  have e:DF 14 [x,y,z]=if x=0 then z else y:=rfl
  rw[e]
  rcases N rfl with hx|hx <;> (change x=_ at hx;subst hx;simp only[qA,seval,cX,qO,ints])
 ·obtain⟨x,y,z,rfl⟩:=OM (by simpa[dQ]using F)
  obtain⟨ex,rfl⟩:=oP D
  simp only[qA,seval,cX,bg,aH,qO,ints,OS,xf,ay2,ay3,Pf,Xp];rfl
 ·obtain⟨x,rfl⟩:=OL (by simpa[dQ]using F)
  obtain⟨ex,rfl⟩:=oP D
  have U:=L9 yv x yv
  have J:wr .i64 (1-x)=1-x:=by unfold bit at U;exact aZ ⟨by omega,by omega⟩
  simp only[qA,seval,cX,qO,ints,J];rfl
 all_goals
  obtain⟨x,y,rfl⟩:=oQ (by simpa[dQ]using F)
  obtain⟨ex,rfl⟩:=oP D
  have U:=L9 yv x yv
  have J:wr .i64 (1-x)=1-x:=by unfold bit at U;exact aZ ⟨by omega,by omega⟩
  have e1:DF 20 [x,y]=min x y:=rfl
  have e2:DF 21 [x,y]=max x y:=rfl
  have e3:DF 22 [x,y]=max (1-x) y:=rfl
  simp only[qB,seval,cX,bg,aH,qO,ints,J,e1,e2,e3]
  grind
def OU(op a b:Int)(J:vOk op [a,b])(K:op=8∨op=9∨op=10∨op=11∨op=16∨op=17∨op=18∨op=20∨op=21∨op=22):ae pE 149 [qi op,qi a,qi b] []=some (qi (DF op [a,b]),[]):=by
 rw[au Xa (by simp[uT])]
 obtain⟨H,L9,_⟩:=J
 have F:=H a yv
 have D:=H b yv
 have r:(op=19∨op=20∨op=21∨op=22)→bit a∧bit b:=fun h=>⟨L9 h a yv,L9 h b yv⟩
 clear H L9
 rcases K with rfl|rfl|rfl|rfl|rfl|rfl|rfl|rfl|rfl|rfl
 ·have h:=Ib F D
  simp only[qA,seval,uT,h,W9];rfl
 ·have h:=Ib F (uB D)
  have I:=Ia D
  simp only[qA,seval,uT,h,I,W9];rfl
 ·have h:=Rw F D
  simp only[qA,seval,uT,h,akh];rfl
 ·have h:=aiq F D
  simp only[qA,seval,uT,h,azk];rfl
 ·have h:=xp (decide (a<b))
  simp only[qA,seval,uT,h,O9];rfl
 ·have h:=xp (decide (a≤b))
  simp only[qA,seval,uT,h,O9];rfl
 ·have h:=xp (decide (a=b))
  simp only[qA,seval,uT,h,O9];rfl
 ·obtain⟨h1,h2⟩:=r yv
  have h:=agE h1 h2
  simp only[qA,seval,uT,h];rfl
 ·obtain⟨h1,h2⟩:=r yv
  have h:=Z6 h1 h2
  simp only[qA,seval,uT,h];rfl
 ·obtain⟨h1,h2⟩:=r yv
  have I:wr .i64 (1-a)=1-a:=by unfold bit at h1;exact aZ ⟨by omega,by omega⟩
  have h:=Z6 (a:=1-a) (b:=b) (by unfold bit at h1;omega) h2
  simp only[qA,seval,uT,I,h];rfl
inductive Fm where
 |mk (op num:Int) (args:List Fm)
def Fm.op:Fm→Int| .mk o _ _=>o
def Fm.num:Fm→Int| .mk _ n _=>n
def Fm.args:Fm→List Fm| .mk _ _ a=>a
mutual
def jv:Fm→List T→Prop
 | .mk op num args,cs=> ∃a r,cs= [qi op,qi num,a]∧IsSl a args.length r∧bf args r
def bf:List Fm→List T→Prop
 | [],cs=>cs= []
 |x::xs,cs=> ∃c r,cs=c++r∧jv x c∧bf xs r
end
theorem jv.cells{x:Fm}{cs:List T}(h:jv x cs): ∃a r,cs= [qi x.op,qi x.num,a]∧IsSl a x.args.length r∧bf x.args r:=by
 obtain⟨o,n,a⟩:=x
 rw[jv]at h
 exact h
theorem jv.of{x:Fm}{a:T}{r:List T}(h1:IsSl a x.args.length r)(h2:bf x.args r):jv x [qi x.op,qi x.num,a]:=by
 obtain⟨o,n,l⟩:=x
 rw[jv]
 exact⟨a,r,rfl,h1,h2⟩
theorem jv.len{x:Fm}{cs:List T}(h:jv x cs):cs.length=3:=by
 obtain⟨a,r,rfl,_⟩:=h.cells;rfl
def bf.nil:bf [] []:=by rw[bf]
def bf.cons{x:Fm}{xs:List Fm}{c r:List T}(h1:jv x c)(h2:bf xs r):bf (x::xs) (c++r):=by
 grind [bf]
theorem bf.append: ∀{xs D:List Fm} {c r:List T},bf xs c→bf D r→bf (xs++D) (c++r)
 | [],D,c,r,h1,h2=>by grind [bf]
 |x::xs,D,c,r,h1,h2=>by
  rw[bf]at h1
  obtain⟨F,H,rfl,h3,h4⟩:=h1
  rw[List.append_assoc]
  exact bf.cons h3 (bf.append h4 h2)
theorem bf.one{x:Fm}{c:List T}(h:jv x c):bf [x] c:=by
 have:=bf.cons h bf.nil
 grind
theorem bf.len: ∀{xs:List Fm} {cs:List T},bf xs cs→cs.length=xs.length*3
 | [],cs,h=>by grind [bf]
 |x::xs,cs,h=>by
  rw[bf]at h
  obtain⟨c,r,rfl,h1,h2⟩:=h
  rw[List.length_append,h1.len,h2.len,List.length_cons];omega
theorem bf.drop: ∀{xs:List Fm} {cs:List T} (k:Nat) (hk:k<xs.length),bf xs cs→ ∃c r,cs.drop (k*3)=c++r∧jv xs[k] c∧bf (xs.drop (k+1)) r
 | [],cs,k,hk,h=>by simp at hk
 |x::xs,cs,0,hk,h=>by
  grind [bf]
 |x::xs,cs,k+1,hk,h=>by
  rw[bf]at h
  obtain⟨c,r,rfl,h1,h2⟩:=h
  obtain⟨D,F,e,h3,h4⟩:=bf.drop k (by simpa using hk) h2
  refine⟨D,F, ?_,h3,by simpa using h4⟩
  have:(k+1)*3=c.length+k*3:=by rw[h1.len];omega
  grind [List.drop_append,Nat.add_sub_cancel_left,List.drop_eq_nil_of_le]
def aap{xs:List Fm}{a:T}{F:List T}(h1:IsSl a xs.length F)(h2:bf xs F)(k:Nat)(hk:k<xs.length):
  ∃b D r,(∀kk,iaV a (.i kk (k:Int)) 3=some (.vp (qi xs[k].op:: qi xs[k].num::b::r)))∧IsSl b xs[k].args.length D∧bf xs[k].args D:=by
 obtain⟨c,r,e,h3,h4⟩:=bf.drop k hk h2
 obtain⟨b,D,rfl,h5,h6⟩:=h3.cells
 refine⟨b,D,r,fun kk=> ?_,h5,h6⟩
 rw[h1.ia (sz:=3) h2.len hk,e];rfl
mutual
def Fm.val(at_:List Int):Fm→Int
 | .mk op num args=>if op=1 then num else if op=6 then at_.getD num.toNat 0 else DF op (eQ at_ args)
def eQ(at_:List Int):List Fm→List Int
 | []=> []
 |x::xs=>x.val at_::eQ at_ xs
end
theorem Fm.val_eq(at_:List Int)(x:Fm):x.val at_=if x.op=1 then x.num else if x.op=6 then at_.getD x.num.toNat 0 else DF x.op (eQ at_ x.args):=by obtain⟨_,_,_⟩:=x;rw[Fm.val];rfl
theorem rL(at_:List Int): ∀xs,eQ at_ xs=xs.map (Fm.val at_)
 | []=>rfl
 |x::xs=>by rw[eQ,rL at_ xs];rfl
mutual
def IJ(at_:List Int):Fm→Prop
 | .mk op num args=>(op=1∧bd num)∨(op=6∧0≤num∧num.toNat<at_.length∧bd (at_.getD num.toNat 0))∨(7≤op∧op≤22∧dQ op args.length=true∧args.length≤jA∧Dz at_ args∧vOk op (eQ at_ args))
def Dz(at_:List Int):List Fm→Prop
 | []=>True
 |x::xs=>IJ at_ x∧Dz at_ xs
end
def Ii(at_:List Int)(x:Fm):IJ at_ x↔((x.op=1∧bd x.num)∨(x.op=6∧0≤x.num∧x.num.toNat<at_.length∧bd (at_.getD x.num.toNat 0))∨(7≤x.op∧x.op≤22∧dQ x.op x.args.length=true∧x.args.length≤jA∧Dz at_ x.args∧vOk x.op (eQ at_ x.args))):=by obtain⟨_,_,_⟩:=x;rw[IJ];rfl
theorem Ma(at_:List Int): ∀{xs:List Fm},Dz at_ xs↔ ∀x∈xs,IJ at_ x
 | []=>by simp[Dz]
 |x::xs=>by simp_all[Dz,Ma]
mutual
def Fm.sz:Fm→Nat
 | .mk _ _ args=>1+uh args
def uh:List Fm→Nat
 | []=>0
 |x::xs=>x.sz+uh xs
end
theorem Fm.sz_eq(x:Fm):x.sz=1+uh x.args:=by obtain⟨_,_,_⟩:=x;rw[Fm.sz];rfl
theorem CJ: ∀{xs:List Fm} {x:Fm},x∈xs→x.sz≤uh xs
 |y::xs,x,h=>by
  rw[uh]
  rcases List.mem_cons.1 h with rfl|h
  ·omega
  ·have:=CJ h;omega
def Fm.ind{P:Fm→Prop}(h: ∀x:Fm,(∀y∈x.args,P y)→P x)(x:Fm):P x:=by
 have: ∀n (x:Fm),x.sz≤n→P x:=by
  intro n
  induction n with
  |zero=>intro x hx;rw[x.sz_eq]at hx;omega
  |succ n ih=>
   intro x hx
   refine h x fun y r=>ih y ?_
   have:=CJ r
   rw[x.sz_eq]at hx;omega
 exact this _ x (Nat.le_refl _)
section
variable(at_:List Int)(iT:T)(dk:IsSl iT at_.length (ints at_))
def ara(f:Fm):Prop:= ∀(b:T) (D r:List T),IsSl b f.args.length D→bf f.args D→IJ at_ f→ae pE 83 [.vp (qi f.op:: qi f.num::b::r),iT] []=some (qi (f.val at_),[])
include dk
def aDj{xs:List Fm}(ih: ∀y∈xs,ara at_ iT y){a:T}{F:List T}(H:IsSl a xs.length F)(hx:bf xs F)(I:Dz at_ xs)(k:Nat)(hk:k<xs.length)(j:Int)(J:j=(k:Int)):
  ∃c,(∀kk,iaV a (.i kk j) 3=some (.vp c))∧ae pE 83 [.vp c,iT] []=some (qi (xs[k].val at_),[]):=by
 have _:=dk
 obtain⟨b,K,r,D,h1,h2⟩:=aap H hx k hk
 subst J
 exact⟨_,D,ih xs[k] (List.getElem_mem hk) b K r h1 h2 ((Ma at_).1 I _ (List.getElem_mem hk))⟩
def aJ5(op num:Int)(BV:op=12∨op=13)(xs:List Fm)(ih: ∀y∈xs,ara at_ iT y)(a:T)(O r:List T)(I:IsSl a xs.length O)(hx:bf xs O)(W:Dz at_ xs)(J:0<xs.length)(hlen:xs.length≤jA)(fr:Fr)(lh:aE ah)(sh:List ah)
  (h0:aa fr 0= .vp (qi op:: qi num::a::r)) (h1:aa fr 1=iT) (h5:aa fr 5= qi (a0 (eQ at_ xs))) (h6:aa fr 6= qi 1):
  qz 155 qM fr lh sh (.ext 1)∧
  (aa (nM pE 155 qM fr lh sh) 5= qi (OT op (a0 (eQ at_ xs)) (eQ at_ xs).tail)∧iL pE 155 qM fr lh sh=lh∧je pE 155 qM fr lh sh=sh):=by
 refine cq (P:=fun fr aN X=>aa fr 5= qi (OT op (a0 (eQ at_ xs)) (eQ at_ xs).tail)∧aN=lh∧X=sh) (cY (fun k st=> ∃(fr:Fr) (m:Int),st=⟨fr,lh,sh⟩∧aa fr 0= .vp (qi op:: qi num::a::r)∧aa fr 1=iT∧aa fr 5= qi m∧aa fr 6= qi (k:Int)∧OT op m ((eQ at_ xs).drop k)=OT op (a0 (eQ at_ xs)) (eQ at_ xs).tail) _ xs.length ?_ ?_ 1 _ J ⟨fr,a0 (eQ at_ xs),rfl,h0,h1,h5,h6,by rw[List.drop_one]⟩)
 ·rintro k _ hk ⟨fr,m,rfl,h0,h1,h5,h6,D⟩
  left
  have F:(k:Int)<xs.length:=zV
  have U:=bn (k:=k) zV
  have V:(eQ at_ xs).length=xs.length:=by rw[rL];simp
  have K:(eQ at_ xs)[k]' zV=xs[k].val at_:=by simp[rL]
  obtain⟨c,H,N⟩:=aDj at_ iT dk ih I hx W k hk (k:Int) rfl
  rw[List.drop_eq_getElem_cons zV,Dy _ _ _ _ BV,K]at D
  generalize xs[k].val at_=v at D N
  rcases BV with rfl|rfl
  ·rw[if_pos rfl,show min m v=(if v<m then v else m)by split <;> omega]at D
   simp only[qA,seval,qM,h0,h1,h5,h6,I.lenI,F,H,U,N,By,dk.froz]
   refine⟨_,rfl,_,_,rfl, ?_, ?_, ?_, ?_,D⟩ <;> simp only[qA,seval,h0,h1]
  ·rw[if_neg zz,show max m v=(if v>m then v else m)by split <;> omega]at D
   simp only[qA,seval,qM,h0,h1,h5,h6,I.lenI,F,H,U,N,By,dk.froz]
   refine⟨_,rfl,_,_,rfl, ?_, ?_, ?_, ?_,D⟩ <;> simp only[qA,seval,h0,h1]
 ·rintro _ ⟨fr,m,rfl,h0,h1,h5,h6,D⟩
  have V:(eQ at_ xs).length=xs.length:=by rw[rL];simp
  rw[←V,List.drop_length,Ih]at D
  simp only[qA,seval,qM,h0,h6,I.lenI,Int.lt_irrefl]
  exact⟨_,_,tS,rfl,rfl,by simp only[qA,seval,h5,D],rfl,rfl⟩
def N5(f:Fm):ara at_ iT f:=by
 induction f using Fm.ind with
 |h f ih=>
  intro b cb r hb U0 iR
  rw[au aeg (by simp[Et]),Fm.val_eq]
  rcases(Ii at_ f).1 iR with⟨h1,_⟩|⟨h6,D1,D2,_⟩|⟨h7,Iz,fj,Eg,aDk,hv⟩
  ·rw[if_pos h1]
   simp only[qA,seval,Et,h1]
  ·rw[if_neg zV,if_pos h6]
   have W:=fun kk=>Dc dk D2 kk
   rw[Int.toNat_of_nonneg D1]at W
   have e:at_.getD f.num.toNat 0=at_[f.num.toNat]:=by simp[List.getD_eq_getElem?_getD,List.getElem?_eq_getElem D2]
   rw[e]
   simp only[qA,seval,Et,h6,W]
  ·rw[if_neg zV,if_neg zV]
   have N:eQ at_ f.args=f.args.map (Fm.val at_):=rL at_ _
   have D: ∀(k:Nat) (hk:k<f.args.length) (j:Int),j=(k:Int)→ ∃c,(∀kk,iaV b (.i kk j) 3=some (.vp c))∧ae pE 83 [.vp c,iT] []=some (qi (f.args[k].val at_),[]):=fun k hk j hj=>aDj at_ iT dk (fun y hy=>ih y hy) hb U0 aDk k hk j hj
   have X:0<f.args.length→(f.op=12∨f.op=13)→wo Et.res Et.eff (DC pE Et.n Et.code ⟨lI [.vp (qi f.op:: qi f.num::b::r),iT],.nil,[]⟩)=some (qi (OT f.op (a0 (eQ at_ f.args)) (eQ at_ f.args).tail),[]):=by
    intro U ho
    obtain⟨Y,F,FT⟩:=D 0 U 0 rfl
    have hL:=fun fr lh sh=>aJ5 at_ iT dk f.op f.num ho f.args (fun y hy=>ih y hy) b cb r hb U0 aDk U Eg fr lh sh
    have H:a0 (eQ at_ f.args)=f.args[0].val at_:=by rw[N];unfold a0;simp[List.getD_eq_getElem?_getD,List.getElem?_eq_getElem U]
    rw[H]at hL ⊢
    rcases ho with ho|ho <;> rw[ho]at hL ⊢ <;> simp only[qA,seval,Et,F,FT,By,dk.froz,hL]
   have Z: ∀x y:Int,eQ at_ f.args= [x,y]→(f.op=8∨f.op=9∨f.op=10∨f.op=11∨f.op=16∨f.op=17∨f.op=18∨f.op=20∨f.op=21∨f.op=22)→wo Et.res Et.eff (DC pE Et.n Et.code ⟨lI [.vp (qi f.op:: qi f.num::b::r),iT],.nil,[]⟩)=some (qi (DF f.op [x,y]),[]):=by
    intro x y Iv ho
    have UU:f.args.length=2:=by have:=congrArg List.length Iv;rw[N]at this;simpa using this
    obtain⟨Y,F,FT⟩:=D 0 zV 0 rfl
    obtain⟨c1,I,AV⟩:=D 1 zV 1 rfl
    have H:f.args[0].val at_=x:=by
     have:(eQ at_ f.args)[0]? =some x:=by rw[Iv];rfl
     grind
    have e1:f.args[1].val at_=y:=by
     have:(eQ at_ f.args)[1]? =some y:=by rw[Iv];rfl
     grind
    rw[H]at FT
    rw[e1]at AV
    rw[Iv]at hv
    have hcb:=OU f.op x y hv ho
    rcases ho with ho|ho|ho|ho|ho|ho|ho|ho|ho|ho <;> rw[ho]at hcb ⊢ <;> simp only[qA,seval,bg,aH,Et,F,I,FT,AV,By,axZ,dk.froz,hcb,ayF,ayG]
   have O: ∀(k:Nat) (hk:k<f.args.length),(eQ at_ f.args)[k]? =some (f.args[k].val at_):=fun k hk=>by rw[N];simp[List.getElem?_eq_getElem hk]
   rcases xl (show 1≤f.op by omega) Iz with h|h|h|h|h|h|h|h|h|h|h|h|h|h|h|h|h|h|h|h|h|h
   iterate 6 ·omega
   ·have Mk:f.args.length=1:=by rw[h]at fj;simpa[dQ]using fj
    obtain⟨x,hx⟩:=OL (ts:=eQ at_ f.args) (by rw[N];simpa using Mk)
    obtain⟨Y,F,FT⟩:=D 0 zV 0 rfl
    have H:f.args[0].val at_=x:=by have:=O 0 zV;rw[hx]at this;simpa using this.symm
    rw[H]at FT
    rw[hx]at hv ⊢
    have J:=hv.1 x yv
    have ha:=Ib (a:=0) (by unfold bd;omega) (uB J)
    have hw:=Ia J
    rw[show(0:Int)+ -x= -x by omega,F3 (uB J)]at ha
    rw[h]
    simp only[qA,seval,Et,F,FT,By,dk.froz,hw,ha,W9];rfl
   ·grind [dQ,oQ,eQ]
   ·grind [dQ,oQ,eQ]
   ·grind [dQ,oQ,eQ]
   ·grind [dQ,oQ,eQ]
   ·rw[X (by rw[h]at fj;simp[dQ]at fj;omega) zV,h];rfl
   ·rw[X (by rw[h]at fj;simp[dQ]at fj;omega) zV,h];rfl
   ·have V:f.args.length=3:=by rw[h]at fj;simpa[dQ]using fj
    obtain⟨x,y,z,hx⟩:=OM (ts:=eQ at_ f.args) (by rw[N];simpa using V)
    obtain⟨Y,F,FT⟩:=D 0 zV 0 rfl
    obtain⟨c1,I,AV⟩:=D 1 zV 1 rfl
    obtain⟨c2,C6,K⟩:=D 2 zV 2 rfl
    have H:f.args[0].val at_=x:=by have:=O 0 zV;rw[hx]at this;simpa using this.symm
    have e1:f.args[1].val at_=y:=by have:=O 1 zV;rw[hx]at this;simpa using this.symm
    have e2:f.args[2].val at_=z:=by have:=O 2 zV;rw[hx]at this;simpa using this.symm
    rw[H]at FT
    rw[e1]at AV
    rw[e2]at K
    rw[hx,h,show DF 14 [x,y,z]=if x=0 then z else y from rfl]
    by_cases hx0:x=0 <;> simp only[qA,seval,Et,F,I,C6,FT,AV,K,By,dk.froz,hx0]
   ·have V:f.args.length=3:=by rw[h]at fj;simpa[dQ]using fj
    obtain⟨x,y,z,hx⟩:=OM (ts:=eQ at_ f.args) (by rw[N];simpa using V)
    obtain⟨Y,F,FT⟩:=D 0 zV 0 rfl
    obtain⟨c1,I,AV⟩:=D 1 zV 1 rfl
    obtain⟨c2,C6,K⟩:=D 2 zV 2 rfl
    have H:f.args[0].val at_=x:=by have:=O 0 zV;rw[hx]at this;simpa using this.symm
    have e1:f.args[1].val at_=y:=by have:=O 1 zV;rw[hx]at this;simpa using this.symm
    have e2:f.args[2].val at_=z:=by have:=O 2 zV;rw[hx]at this;simpa using this.symm
    rw[H]at FT
    rw[e1]at AV
    rw[e2]at K
    rw[hx,h]
    have hi:=OR x y z
    have ht:=xp (dD x y z)
    simp only[qA,seval,bg,aH,Et,F,I,C6,FT,AV,K,By,axZ,dk.froz,hi,ht,ayD,ayE,O9,ayC];rfl
   iterate 3
    ·obtain⟨x,y,Iv⟩:=oQ (ts:=eQ at_ f.args) (by rw[N];rw[h]at fj;simpa[dQ]using fj)
     rw[Iv];exact Z x y Iv zV
   ·have Mk:f.args.length=1:=by rw[h]at fj;simpa[dQ]using fj
    obtain⟨x,hx⟩:=OL (ts:=eQ at_ f.args) (by rw[N];simpa using Mk)
    obtain⟨Y,F,FT⟩:=D 0 zV 0 rfl
    have H:f.args[0].val at_=x:=by have:=O 0 zV;rw[hx]at this;simpa using this.symm
    rw[H]at FT
    rw[hx]at hv ⊢
    have J:=hv.2.1 zV x yv
    have hw:wr .i64 (1-x)=1-x:=by unfold bit at J;exact aZ ⟨by omega,by omega⟩
    rw[h]
    simp only[qA,seval,Et,F,FT,By,dk.froz,hw];rfl
   iterate 3
    ·obtain⟨x,y,Iv⟩:=oQ (ts:=eQ at_ f.args) (by rw[N];rw[h]at fj;simpa[dQ]using fj)
     rw[Iv];exact Z x y Iv zV
end
end Go.Proofs.YtnkgnjecmfkcfaaGreat
