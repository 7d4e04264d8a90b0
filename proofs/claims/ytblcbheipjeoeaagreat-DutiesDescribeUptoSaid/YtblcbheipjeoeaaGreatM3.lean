/- Walks of functions of the program and of the reference, and their plain laws, part 3. Conditions: the theorems' own. -/
import Derived.Test.YtblcbheipjeoeaaGreatM2
import Derived.KernelRfl
set_option maxRecDepth 100000
set_option linter.unusedSimpArgs false
set_option linter.unusedVariables false
set_option maxHeartbeats 16000000
namespace Go.Proofs.YtblcbheipjeoeaaGreat
open Go Go.Ev
def kD:Cs→List T→Prop
 | [],cs=>cs= []
 |c::l,cs=> ∃ex r,cs=(T.s c.1::ex)++r∧lK c.2 ex∧kD l r
theorem kD.len: ∀{l:Cs} {cs:List T},kD l cs→cs.length=l.length*5
 | [],cs,h=>by rw[kD]at h;rw[h];rfl
 |c::l,cs,h=>by
  rw[kD]at h
  obtain⟨ex,r,rfl,i,C⟩:=h
  rw[List.length_append,List.length_cons,i.len,C.len,List.length_cons];omega
theorem kD.drop: ∀{l:Cs} {cs:List T} (k:Nat) (hk:k<l.length),kD l cs→ ∃ex r,cs.drop (k*5)=(T.s l[k].1::ex)++r∧lK l[k].2 ex∧kD (l.drop (k+1)) r
 | [],cs,k,hk,h=>by simp at hk
 |x::xs,cs,0,hk,h=>by
  rw[kD]at h
  obtain⟨c,r,rfl,i,C⟩:=h
  exact⟨c,r,by simp,i,by simpa using C⟩
 |x::xs,cs,k+1,hk,h=>by
  rw[kD]at h
  obtain⟨c,r,rfl,i,C⟩:=h
  obtain⟨D,E,e,F,H⟩:=kD.drop k (by simpa using hk) C
  refine⟨D,E, ?_,F,by simpa using H⟩
  have:(k+1)*5=(T.s x.1::c).length+k*5:=by rw[List.length_cons,i.len];omega
  rw[this,List.drop_append,Nat.add_sub_cancel_left,List.drop_eq_nil_of_le (by omega),e];rfl
theorem kD.take: ∀{l:Cs} {cs:List T} (k:Nat),kD l cs→kD (l.take k) (cs.take (k*5))
 |l,cs,0,h=>by simp[kD]
 | [],cs,k+1,h=>by rw[kD]at h;subst h;simp[kD]
 |x::xs,cs,k+1,h=>by
  rw[kD]at h
  obtain⟨c,r,rfl,i,C⟩:=h
  have:(k+1)*5=(T.s x.1::c).length+k*5:=by rw[List.length_cons,i.len];omega
  rw[List.take_succ_cons,kD]
  refine⟨c,r.take (k*5), ?_,i,kD.take k C⟩
  rw[this,List.take_append,Nat.add_sub_cancel_left,List.take_of_length_le (by omega)]
theorem lL{l:Cs}{a:T}{D:List T}(H:g8 a l.length D)(E:kD l D)(k:Nat)(hk:k<l.length):
  ∃b C r,(∀kk,sH a (.i kk (k:Int)) 5=some (.vp (.s l[k].1:: .i .i64 l[k].2.op:: .i .i64 l[k].2.num:: .s l[k].2.name::b::r)))∧g8 b l[k].2.args.length C∧jN l[k].2.args C∧lK l[k].2 [.i .i64 l[k].2.op,.i .i64 l[k].2.num,.s l[k].2.name,b]:=by
 obtain⟨c,r,e,F,K⟩:=kD.drop k hk E
 obtain⟨b,C,rfl,I,J⟩:=F.cells
 refine⟨b,C,r,fun kk=> ?_,I,J,F⟩
 rw[H.ia (sz:=5) E.len hk,e];rfl
theorem IV: ∀{l:Cs} {s:List Nat} {i:Nat},k8 l s=some i→i<l.length
 | [],s,i,h=>by simp[k8]at h
 |c::cs,s,i,h=>by
  rw[k8]at h
  split at h
  ·simp at h;subst h;simp
  ·cases r:k8 cs s with
   |none=>simp[r]at h
   |some j=>
    simp[r]at h
    have:=IV r
    subst h;simpa using this
theorem BS{l:Cs}{s:List Nat}: ∀(k:Nat),k≤l.length→(∀j (h:j<k) (hl:j<l.length),l[j].1≠s)→k8 l s=(k8 (l.drop k) s).map (· +k)
 |0,_,_=>by simp
 |k+1,hk,h=>by
  have:=BS (l:=l) k (by omega) fun j C hl=>h j (by omega) hl
  have r:k<l.length:=by omega
  rw[this,List.drop_eq_getElem_cons r,k8,if_neg (h k (by omega) r)]
  cases k8 (l.drop (k+1)) s with
  |none=>rfl
  |some i=>simp;omega
theorem xP(l:Cs)(s:List Nat): ∀n,k8 (l.take n) s=match k8 l s with|some i=>if i<n then some i else none|none=>none:=by
 induction l with
 |nil=>intro n;simp[k8]
 |cons c l ih=>
  intro n
  cases n with
  |zero=>
   simp only[List.take_zero,k8]
   cases h:(if c.1=s then some 0 else(k8 l s).map (· +1)) <;> simp
  |succ n=>
   rw[List.take_succ_cons,k8,k8,ih n]
   by_cases h:c.1=s
   ·simp[h]
   ·rw[if_neg h,if_neg h]
    cases k8 l s with
    |none=>rfl
    |some i=>simp only[Option.map_some];by_cases hi:i<n <;> simp[hi]
def Zb(l:Cs)(s:List Nat):Int:=match k8 l s with|none=> -1|some i=>(i:Int)
theorem xL{l:Cs}{s:List Nat}{i:Nat}(h:k8 l s=some i):Zb l s=(i:Int):=by unfold Zb;rw[h]
theorem Hl{l:Cs}{s:List Nat}(h:k8 l s=none):Zb l s= -1:=by unfold Zb;rw[h]
theorem ato(l:Cs)(s:List Nat)(a:T)(N:List T)(H:g8 a l.length N)(W:kD l N)(hs:l.length≤oQ)(o:Out)(O:o=if k8 l s=none then .ext 0 else .ret)(fr:Fr)(lh:hJ gR)(sh:List gR)(D:an fr 0=a)(E:an fr 1= .s s)(F:an fr 5= .i .i64 0):
  kV 20 sj fr lh sh o∧
  ((∀i,k8 l s=some i→an (kh pE 20 sj fr lh sh) 4= .i .i64 (i:Int))∧kH pE 20 sj fr lh sh=lh∧kb pE 20 sj fr lh sh=sh):=by
 refine ib (P:=fun fr X Y=>(∀i,k8 l s=some i→an fr 4= .i .i64 (i:Int))∧X=lh∧Y=sh) (ij (fun k st=> ∃fr:Fr,st=⟨fr,lh,sh⟩∧an fr 0=a∧an fr 1= .s s∧an fr 5= .i .i64 (k:Int)∧k≤l.length∧ ∀j (h:j<k) (hl:j<l.length),l[j].1≠s) _ l.length ?_ ?_ 0 _ (Nat.zero_le _) ⟨fr,rfl,D,E,F,Nat.zero_le _,by simp⟩)
 ·rintro k _ hk ⟨fr,rfl,D,E,F,K,I⟩
  have U:(k:Int)<l.length:=by omega
  have Z:=iD (k:=k) (by omega)
  have C:=BS k K I
  rw[List.drop_eq_getElem_cons hk,k8]at C
  obtain⟨b,cb,r,V,_,_,_⟩:=lL H W k hk
  by_cases J:l[k].1=s
  ·right
   rw[if_pos J]at C
   simp only[Option.map_some,Nat.zero_add]at C
   simp only[qA,seval,sj,D,E,F,H.lenI,U,V,J]
   refine⟨_,_,jJ,rfl,by rw[O,C];rfl,fun i hi=> ?_,rfl,rfl⟩
   rw[C]at hi
   cases hi
   simp only[qA,seval]
  ·left
   simp only[qA,seval,sj,D,E,F,H.lenI,U,V,J,Z]
   refine⟨_,rfl,_,rfl, ?_, ?_, ?_,by omega, ?_⟩
   all_goals first|(simp only[qA,seval,D,E];done)|skip
   intro j hj hl
   by_cases e:j=k
   ·subst e;exact J
   ·exact I j (by omega) hl
 ·rintro _ ⟨fr,rfl,D,E,F,K,I⟩
  have C:=BS l.length K I
  rw[List.drop_length,k8]at C
  simp only[qA,seval,sj,D,F,H.lenI,Int.lt_irrefl]
  refine⟨_,_,jB,rfl,by rw[O,C];rfl,fun i hi=> ?_,rfl,rfl⟩
  rw[C]at hi;cases hi
theorem IN(l:Cs)(s:List Nat)(a:T)(D:List T)(E:g8 a l.length D)(F:kD l D)(hs:l.length≤oQ):gS pE 126 [a,.s s] []=some (.i .i64 (Zb l s),[]):=by
 have r:=fun fr lh sh=>ato l s a D E F hs _ rfl fr lh sh
 rw[gX ad9 (by simp[Qx])]
 cases C:k8 l s with
 |none=>
  rw[Hl C]
  simp only[C,if_true,reduceCtorEq,false_implies,implies_true,true_and]at r
  simp only[qA,seval,Qx,r]
 |some i=>
  rw[xL C]
  simp only[C,reduceCtorEq,if_false,Option.some.injEq,forall_eq']at r
  simp only[qA,seval,Qx,r]
def IW(ts:List Int):Except Int (List Int)→Except Int (List Int)
 | .error e=> .error e
 | .ok us=> .ok (ts++us)
def N4:Except Int (List Int)→Out
 | .error _=> .ret
 | .ok _=> .ext 0
theorem LC{cl:List Nat→Int×Int}{scope:Int}{xs:List Ex}{k:Nat}(hk:k<xs.length):pv cl scope (xs.drop k)=if(xs[k].ty cl scope).2≠0 then .error (xs[k].ty cl scope).2 else IW [(xs[k].ty cl scope).1] (pv cl scope (xs.drop (k+1))):=by
 rw[xF hk,pv]
 split
 ·rfl
 ·cases pv cl scope (xs.drop (k+1)) <;> rfl
theorem Hm(a b:List Int)(x:Except Int (List Int)):IW a (IW b x)=IW (a++b) x:=by cases x <;> simp[IW]
theorem vF{cl:List Nat→Int×Int}{scope:Int}: ∀{xs:List Ex} {ts:List Int},pv cl scope xs= .ok ts→ts.length=xs.length
 | [],ts,h=>by rw[pv]at h;cases h;rfl
 |x::xs,ts,h=>by
  rw[pv]at h
  split at h
  ·cases h
  ·cases i:pv cl scope xs with
   |error e=>rw[i]at h;cases h
   |ok us=>rw[i]at h;cases h;simp[vF i]
theorem oN{lh:hJ gR}{sh:List gR}{v:T}{k n:Nat}{cs:List T}(h:iT lh v k 1 n cs)(i:n≤oQ)(x:T)(ex:Bool):
  appW lh sh k 1 8 v (.sl [x] 1 ex)=some (Ij lh sh k 1 8 v (.sl [x] 1 ex),Ar lh sh k 1 8 v (.sl [x] 1 ex))∧iT (Ar lh sh k 1 8 v (.sl [x] 1 ex)) (Ij lh sh k 1 8 v (.sl [x] 1 ex)) k 1 (n+1) (cs++ [x])∧ ∀j,j≠k→a6 (Ar lh sh k 1 8 v (.sl [x] 1 ex)) j=a6 lh j:=
 iT.appW h (m:=0) (by rw[yI];rfl) rfl (by unfold roomy;unfold oQ at i;omega)
section
variable(l:Cs)(wP:List (Int×Int))(lT kT eT:T)(cl:List T)(hl:g8 lT l.length cl)(lM:kD l cl)(hlen:l.length≤oQ)(aj9:wP.length=l.length)(hk:g8 kT wP.length (ints (wP.map (·.1))))(he:g8 eT wP.length (ints (wP.map (·.2))))
def atp(scope:Int)(y:Ex):Prop:= ∀cs:List T,lK y cs→y.nodes≤100000→y.wf=true→gS pE 197 [.agg [kT,eT],lT,.i .i64 scope,.agg cs] []=some (.tup [.i .i64 (y.ty (clk l wP) scope).1,.i .i64 (y.ty (clk l wP) scope).2],[])
include hl hk he
theorem ayr(scope:Int)(xs:List Ex)(ih: ∀y∈xs,atp l wP lT kT eT scope y)(a:T)(cc:List T)(ha:g8 a xs.length cc)(hx:jN xs cc)(hn:jt xs≤100000)(tu:sM xs=true)(op num:Int)(s:List Nat)(r:Except Int (List Int))(hr:r=pv (clk l wP) scope xs)(o:Out)(ho:o=N4 r)(g g4:Nat)(fr:Fr)(lh:hJ gR)(sh:List gR)
  (N:an fr 1=lT) (O:an fr 2= .i .i64 scope) (U:an fr 4= .ptr .L 4 g4 0) (I:an fr 7= .ptr .L 7 g 0) (J:an fr 10= .nilsl) (F:an fr 11= .i .i64 0) (X:a6 lh 4=⟨g4,.cells [kT,eT] 0 true⟩) (Y:a6 lh 7=⟨g,.cells [.i .i64 op,.i .i64 num,.s s,a] 0 true⟩):
  kV 80 nk fr lh sh o∧
  ((∀e,r= .error e→an (kh pE 80 nk fr lh sh) 8= .i .i64 0∧an (kh pE 80 nk fr lh sh) 9= .i .i64 e)∧(∀ts,r= .ok ts→iT (kH pE 80 nk fr lh sh) (an (kh pE 80 nk fr lh sh) 10) 43 1 ts.length (ints ts))∧
    a6 (kH pE 80 nk fr lh sh) 4=a6 lh 4∧a6 (kH pE 80 nk fr lh sh) 7=a6 lh 7∧kb pE 80 nk fr lh sh=sh):=by
 refine ib (P:=fun iq il iw=>(∀e,r= .error e→an iq 8= .i .i64 0∧an iq 9= .i .i64 e)∧(∀ts,r= .ok ts→iT il (an iq 10) 43 1 ts.length (ints ts))∧a6 il 4=a6 lh 4∧a6 il 7=a6 lh 7∧iw=sh)
  (ij (fun k st=> ∃(fr:Fr) (V:hJ gR) (ts:List Int),st=⟨fr,V,sh⟩∧an fr 1=lT∧an fr 2= .i .i64 scope∧an fr 4= .ptr .L 4 g4 0∧an fr 7= .ptr .L 7 g 0∧an fr 11= .i .i64 (k:Int)∧a6 V 4=a6 lh 4∧a6 V 7=a6 lh 7∧
    iT V (an fr 10) 43 1 k (ints ts)∧ts.length=k∧r=IW ts (pv (clk l wP) scope (xs.drop k))) _ xs.length ?_ ?_ 0 _ (Nat.zero_le _) ⟨fr,lh,[],rfl,N,O,U,I,F,rfl,rfl,by rw[J];exact iT.nil,rfl,by rw[hr,List.drop_zero];cases pv (clk l wP) scope xs <;> rfl⟩)
 ·rintro k _ Cr ⟨fr,V,ts,rfl,N,O,U,I,F,D,C,Z,tI,E⟩
  rw[X]at D
  rw[Y]at C
  have iu:(k:Int)<xs.length:=by omega
  have DY:=jR xs
  have hyk:=mj (List.getElem_mem Cr)
  have hw:=iD (k:=k) (ku (by omega))
  obtain⟨b,cb,rr,iv,jE,oV,hb⟩:=mY ha hx k Cr
  have W:=ih xs[k] (List.getElem_mem Cr) _ hb (by omega) (xE.1 tu _ (List.getElem_mem Cr))
  rw[LC Cr]at E
  by_cases H:(xs[k].ty (clk l wP) scope).2=0
  ·left
   rw[if_neg (by simp[H]),Hm]at E
   have K:=oN Z (ku (by omega)) (sh:=sh) (T.i .i64 (xs[k].ty (clk l wP) scope).1) true
   generalize xs[k].ty (clk l wP) scope=q at W H E K
   obtain⟨q1,q2⟩:=q
   simp only at W H E K
   subst H
   generalize J:an fr 10=v10 at Z K
   simp only[qA,seval,repl,iR,iy,nk,N,O,U,I,J,F,D,C,ha.lenI,iu,iv,hw,W,Vs,Vt,jE.froz1,hk.froz1,he.froz1,hl.froz,Z.notS,K.1]
   refine⟨_,rfl,_,_,ts++ [q1],rfl, ?_, ?_, ?_, ?_, ?_, ?_, ?_, ?_,by simp[tI],E⟩
   all_goals first|(simp only[qA,seval,N,O,U,I];done)|skip
   ·rw[K.2.2 4 (by decide),D,X]
   ·rw[K.2.2 7 (by decide),C,Y]
   ·simp only[qA,seval]
    rw[show ints (ts++ [q1])=ints ts++ [.i .i64 q1]by simp[ints]]
    exact K.2.1
  ·right
   rw[if_pos (by simp[H])]at E
   generalize xs[k].ty (clk l wP) scope=q at W H E
   obtain⟨q1,q2⟩:=q
   simp only at W H E
   simp only[qA,seval,iR,iy,nk,N,O,U,I,F,D,C,ha.lenI,iu,iv,W,Vs,Vt,jE.froz1,hk.froz1,he.froz1,hl.froz,H]
   refine⟨_,_,jJ,rfl,by rw[ho,E];rfl,fun e he=> ?_,fun t ht=>(by rw[E]at ht;cases ht),by rw[D,X],by rw[C,Y],rfl⟩
   rw[E]at he
   cases he
   exact⟨by simp only[qA,seval],by simp only[qA,seval]⟩
 ·rintro _ ⟨fr,V,ts,rfl,N,O,U,I,F,D,C,Z,tI,E⟩
  rw[X]at D
  rw[Y]at C
  rw[List.drop_length,pv,IW,List.append_nil]at E
  simp only[qA,seval,nk,I,F,C,ha.lenI,Int.lt_irrefl]
  refine⟨_,_,jB,rfl,by rw[ho,E];rfl,fun e he=>(by rw[E]at he;cases he),fun t ht=> ?_,by rw[D,X],by rw[C,Y],rfl⟩
  rw[E]at ht
  cases ht
  simp only[qA,seval]
  rw[tI];exact Z
include lM hlen aj9
theorem Zc(scope:Int)(x:Ex):atp l wP lT kT eT scope x:=by
 induction x using Ex.ind with
 |h x ih=>
  intro cs Z hn U
  obtain⟨a,cc,rfl,ha,BB⟩:=Z.cells
  rw[gX JK (by simp[Fq]),Ex.ty_eq]
  have hnd:=x.nodes_eq
  rw[Ex.wf_eq,Bool.and_eq_true]at U
  obtain⟨V,Bl⟩:=U
  have r:=fun fr lh sh=>ayr l wP lT kT eT cl hl hk he scope x.args (fun y hy=>ih y hy) a cc ha BB (by omega) Bl x.op x.num x.name _ rfl _ rfl 1 1 fr lh sh
  have E:=AB scope x.name
  have Z9:=IN l x.name lT cl hl lM hlen
  have wD:=jR x.args
  have CJ:x.args.length≤oQ:=ku (by omega)
  simp only[oD,Bool.and_eq_true,decide_eq_true_eq]at V
  obtain⟨H,I,F,_,_⟩:=V
  by_cases C:x.op=6
  ·rw[if_pos C]
   have mG:x.args= []:=by
    rw[C]at F
    simp[jA]at F
    exact F
   rw[mG]at r
   simp only[pv,N4,reduceCtorEq,false_implies,implies_true,Except.ok.injEq,forall_eq',true_and]at r
   unfold tW at E
   by_cases D:ki scope x.name=0
   ·rw[if_neg (by simp[D])]
    rw[if_pos D,D]at E
    cases hi:k8 l x.name with
    |none=>
     rw[Hl hi]at Z9
     have:clk l wP x.name=(0,6):=by unfold clk;rw[hi]
     rw[this]
     simp only[qA,seval,Fq,tz,C,r,E,wq,Z9,Ot,hl.froz]
    |some i=>
     rw[xL hi]at Z9
     have lB:=IV hi
     have BC: ¬(i:Int)<0:=by omega
     have W:=fun kk=>pz (ts:=wP.map (·.1)) (by simpa using hk) (k:=i) (by simp;omega) kk
     have X:=fun kk=>pz (ts:=wP.map (·.2)) (by simpa using he) (k:=i) (by simp;omega) kk
     have:clk l wP x.name=wP[i]'(by omega):=by unfold clk;rw[hi];simp[List.getD_eq_getElem?_getD,List.getElem?_eq_getElem (show i<wP.length by omega)]
     rw[this]
     simp only[List.getElem_map]at W X
     simp only[qA,seval,Fq,tz,C,r,E,wq,Z9,Ot,hl.froz,BC,W,X]
   ·rw[if_pos D]
    rw[if_neg D]at E
    simp only[qA,seval,Fq,tz,C,r,E,wq]
  ·rw[if_neg C]
   cases J:pv (clk l wP) scope x.args with
   |error e=>
    simp only[J,N4,Except.error.injEq,reduceCtorEq,false_implies,implies_true,forall_eq',true_and]at r
    simp only[qA,seval,Fq,r]
   |ok ts=>
    have E2:=vF J
    simp only[J,N4,Except.ok.injEq,reduceCtorEq,false_implies,implies_true,forall_eq',true_and]at r
    have Y:=fun fr lh sh h1 h2 h4 h7 K N o4 o7=>iT.fzV (sh:=sh) (keep:=false) (r fr lh sh h1 h2 h4 h7 K N o4 o7).2.1
    have O:=N3 x.op ts (lJ ts.length (ints ts)) (oA (fun h0=>by rw[List.length_eq_zero_iff.1 h0];rfl)) (by rw[E2];exact CJ) H I C (by rw[E2];exact F)
    by_cases D:mH x.op ts=0
    ·rw[D]at O
     simp only[qA,seval,Fq,tz,C,r,Y,O,afn,D]
    ·simp only[qA,seval,Fq,tz,C,r,Y,O,afn,D]
end
theorem ni(l:Cs): ∀n,(kI l n).length=n
 |0=>rfl
 |n+1=>by rw[kI,List.length_append,ni l n];rfl
theorem xQ(l:Cs){n:Nat}(h:n<l.length):kI l (n+1)=kI l n++ [vW (l.take n) (kI l n) l[n].2]:=by
 rw[kI];simp[List.getD_eq_getElem?_getD,List.getElem?_eq_getElem h]
def Ym(l:Cs):Prop:= ∀c∈l,0≤c.2.nodes∧c.2.sm
theorem rW(a:List Int)(x:Int):ints (a++ [x])=ints a++ [.i .i64 x]:=by simp[ints]
section
variable(l:Cs)(lT:T)(cl:List T)(hl:g8 lT l.length cl)(lM:kD l cl)(hlen:l.length≤oQ)(qJ:Ym l)
include hl lM hlen qJ
theorem ays(V I:Nat)(fr:Fr)(lh:hJ gR)(sh:List gR)
  (K:an fr 0=lT) (Y:an fr 2= .ptr .L 2 V 0) (O:an fr 3= .ptr .L 3 I 0) (W:an fr 4= .i .i64 0) (X:a6 lh 2=⟨V,.cells [.nilsl,.nilsl] 0 true⟩) (N:a6 lh 3=⟨I,.cells [.nilsl,.nilsl] 0 true⟩):
  kV 47 om fr lh sh (.ext 0)∧
  (a6 (kH pE 47 om fr lh sh) 2=⟨V,.cells [.nilsl,.nilsl] 0 true⟩∧(∃C D,a6 (kH pE 47 om fr lh sh) 3=⟨I,.cells [C,D] 0 true⟩∧iT (kH pE 47 om fr lh sh) C 38 1 l.length (ints ((kI l l.length).map (·.1)))∧iT (kH pE 47 om fr lh sh) D 43 1 l.length (ints ((kI l l.length).map (·.2))))∧kb pE 47 om fr lh sh=sh):=by
 refine ib (P:=fun iq il iw=>a6 il 2=⟨V,.cells [.nilsl,.nilsl] 0 true⟩∧(∃C D,a6 il 3=⟨I,.cells [C,D] 0 true⟩∧iT il C 38 1 l.length (ints ((kI l l.length).map (·.1)))∧iT il D 43 1 l.length (ints ((kI l l.length).map (·.2))))∧iw=sh)
  (ij (fun k st=> ∃(fr:Fr) (E:hJ gR) (C D:T),st=⟨fr,E,sh⟩∧an fr 0=lT∧an fr 2= .ptr .L 2 V 0∧an fr 3= .ptr .L 3 I 0∧an fr 4= .i .i64 (k:Int)∧a6 E 2=⟨V,.cells [.nilsl,.nilsl] 0 true⟩∧a6 E 3=⟨I,.cells [C,D] 0 true⟩∧
    iT E C 38 1 k (ints ((kI l k).map (·.1)))∧iT E D 43 1 k (ints ((kI l k).map (·.2)))) _ l.length ?_ ?_ 0 _ (Nat.zero_le _) ⟨fr,lh,.nilsl,.nilsl,rfl,K,Y,O,W,X,N,iT.nil,iT.nil⟩)
 ·rintro k _ hk ⟨fr,E,C,D,rfl,K,Y,O,W,X,N,TD,TE⟩
  left
  have iu:(k:Int)<l.length:=by omega
  have hw:=iD (k:=k) (by omega)
  obtain⟨b,cb,r,iv,jE,oV,hb⟩:=lL hl lM k hk
  obtain⟨Qf,N5⟩:=qJ l[k] (List.getElem_mem hk)
  have H:=rn l[k].2 _ hb N5
  rw[xQ l hk,List.map_append,List.map_append]
  simp only[List.map_cons,List.map_nil,rW]
  unfold vW
  by_cases F:iX l[k].2=0
  ·rw[if_neg (by simp[F])]
   rw[F]at H
   have tu:l[k].2.wf=true:=by
    unfold iX at F
    by_cases zZ:big l[k].2
    ·rw[if_pos zZ]at F;cases F
    ·rw[if_neg zZ]at F
     cases hx:l[k].2.wf with
     |true=>rfl
     |false=>rw[hx]at F;cases F
   rcases hl with⟨_,hz,_⟩|⟨ex,rfl⟩
   ·omega
   have sQ:k≤l.length:=by omega
   have N6:=lM.len
   have mK:=Zc (l.take k) (kI l k) (.sl (List.take (k*5) cl) k (ex&&decide (k=l.length))) (lJ k (ints ((kI l k).map (·.1)))) (lJ k (ints ((kI l k).map (·.2)))) (cl.take (k*5)) (Or.inr ⟨_,by rw[List.length_take,Nat.min_eq_left sQ]⟩) (lM.take k) (by rw[List.length_take];omega) (by rw[ni,List.length_take,Nat.min_eq_left sQ])
    (by rw[ni];exact TD.isl) (by rw[ni];exact TE.isl) 0 l[k].2 _ hb (by have:=AU F;omega) tu
   generalize l[k].2.ty (clk (l.take k) (kI l k)) 0=q at mK ⊢
   obtain⟨J,U⟩:=q
   simp only at mK ⊢
   have N7:=oN TD (by omega) (sh:=sh) (T.i .i64 J) true
   have N8:=oN (TE.congr (N7.2.2 43 (by decide))) (by omega) (sh:=sh) (T.i .i64 U) true
   have Z:a6 (Ar E sh 38 1 8 C (.sl [.i .i64 J] 1 true)) 3=⟨I,.cells [C,D] 0 true⟩:=by rw[N7.2.2 3 (by decide),N]
   have e4:a6 (Ar (Ar E sh 38 1 8 C (.sl [.i .i64 J] 1 true)) sh 43 1 8 D (.sl [.i .i64 U] 1 true)) 3=⟨I,.cells [C,D] 0 true⟩:=by rw[N8.2.2 3 (by decide),Z]
   simp only[qA,seval,u9,repl,iR,Bz,iy,qb,om,K,O,W,N,iu,iv,hw,H,BY,jE.froz1,sQ,N6,Nat.sub_zero,Nat.le_refl,TD.fzW,TE.fzW,apl,apm,mK,TD.notS,TE.notS,rL TD,rL TE,N7.1,N8.1,Z,e4,N7.2.1.cells,N7.2.1.noTup,N8.2.1.cells,N8.2.1.noTup]
   refine⟨_,rfl,_,_,Ij E sh 38 1 8 C (.sl [.i .i64 J] 1 true),Ij (Ar E sh 38 1 8 C (.sl [.i .i64 J] 1 true)) sh 43 1 8 D (.sl [.i .i64 U] 1 true),rfl, ?_, ?_, ?_, ?_, ?_, ?_, ?_, ?_⟩
   all_goals first|(simp only[qA,seval,K,Y,O];done)|skip
   ·simp only[qA,seval];rw[N8.2.2 2 (by decide),N7.2.2 2 (by decide),X]
   ·refine iT.congr (lh:=Ar E sh 38 1 8 C (.sl [.i .i64 J] 1 true)) N7.2.1 ?_
    simp only[qA,seval]
    exact N8.2.2 38 (by decide)
   ·refine iT.congr N8.2.1 ?_
    simp only[qA,seval]
  ·rw[if_pos F]
   obtain⟨J,h1q⟩: ∃q:Int,q=0:=⟨0,rfl⟩
   rw[←h1q]
   have agV:=H
   generalize GA:iX l[k].2=U at agV F ⊢
   have N7:=oN TD (by omega) (sh:=sh) (T.i .i64 J) true
   have N8:=oN (TE.congr (N7.2.2 43 (by decide))) (by omega) (sh:=sh) (T.i .i64 U) true
   have Z:a6 (Ar E sh 38 1 8 C (.sl [.i .i64 J] 1 true)) 3=⟨I,.cells [C,D] 0 true⟩:=by rw[N7.2.2 3 (by decide),N]
   have e4:a6 (Ar (Ar E sh 38 1 8 C (.sl [.i .i64 J] 1 true)) sh 43 1 8 D (.sl [.i .i64 U] 1 true)) 3=⟨I,.cells [C,D] 0 true⟩:=by rw[N8.2.2 3 (by decide),Z]
   subst h1q
   simp only[qA,seval,u9,repl,iR,Bz,iy,qb,om,K,O,W,N,hl.lenI,iu,iv,hw,agV,BY,jE.froz1,F,TD.notS,TE.notS,rL TD,rL TE,N7.1,N8.1,Z,e4,N7.2.1.cells,N7.2.1.noTup,N8.2.1.cells,N8.2.1.noTup]
   refine⟨_,rfl,_,_,Ij E sh 38 1 8 C (.sl [.i .i64 0] 1 true),Ij (Ar E sh 38 1 8 C (.sl [.i .i64 0] 1 true)) sh 43 1 8 D (.sl [.i .i64 U] 1 true),rfl, ?_, ?_, ?_, ?_, ?_, ?_, ?_, ?_⟩
   all_goals first|(simp only[qA,seval,K,Y,O];done)|skip
   ·simp only[qA,seval];rw[N8.2.2 2 (by decide),N7.2.2 2 (by decide),X]
   ·refine iT.congr (lh:=Ar E sh 38 1 8 C (.sl [.i .i64 0] 1 true)) N7.2.1 ?_
    simp only[qA,seval]
    exact N8.2.2 38 (by decide)
   ·refine iT.congr N8.2.1 ?_
    simp only[qA,seval]
 ·rintro _ ⟨fr,E,C,D,rfl,K,Y,O,W,X,N,TD,TE⟩
  simp only[qA,seval,om,K,W,hl.lenI,Int.lt_irrefl]
  exact⟨_,_,jB,rfl,rfl,X,⟨C,D,N,TD,TE⟩,rfl⟩
theorem akc:gS pE 198 [lT] []=some (.agg [lJ l.length (ints ((kI l l.length).map (·.1))),lJ l.length (ints ((kI l l.length).map (·.2)))],[]):=by
 have i:=fun fr lh sh r C D E F H=>ays l lT cl hl lM hlen qJ 1 1 fr lh sh r C D E F H
 have J:=fun fr lh sh r C D E F H=>And.intro (i fr lh sh r C D E F H).1 (And.intro (i fr lh sh r C D E F H).2.1 (And.intro (Ik (i fr lh sh r C D E F H).2.2.1).1 (i fr lh sh r C D E F H).2.2.2))
 have TD:=fun m keep I e fr lh sh r C D E F H=>iT.fzW (m:=m) (keep:=keep) (sh:=I) (iT.congr (Ik (i fr lh sh r C D E F H).2.2.1).2.1 (jl (k:=2) (m:=38) _ e (by decide)))
 have TE:=fun m keep I e fr lh sh r C D E F H=>iT.fzW (m:=m) (keep:=keep) (sh:=I) (iT.congr (Ik (i fr lh sh r C D E F H).2.2.1).2.2 (jl (k:=2) (m:=43) _ e (by decide)))
 rw[gX Vu (by simp[Uk])]
 simp only[qA,seval,Uk,QL,J,TD,TE,Nd]
theorem E3(scope:Int)(x:Ex)(cs:List T)(D:lK x cs)(O:0≤x.nodes)(hs:x.sm):gS pE 122 [lT,.i .i64 scope,.agg cs] []=some (.tup [.i .i64 (sN l scope x).1,.i .i64 (sN l scope x).2],[]):=by
 have r:=rn x cs D hs
 have aj9:=akc l lT cl hl lM hlen qJ
 have H:g8 (lJ l.length (ints ((kI l l.length).map (·.1)))) l.length (ints ((kI l l.length).map (·.1))):=oA fun F=>by rw[F];rfl
 have Ty:g8 (lJ l.length (ints ((kI l l.length).map (·.2)))) l.length (ints ((kI l l.length).map (·.2))):=oA fun F=>by rw[F];rfl
 have E:=fun(FN:iX x=0) K=>Zc l (kI l l.length) lT _ _ cl hl lM hlen (ni l _) (by rw[ni];exact H) (by rw[ni];exact Ty) scope x cs D (by have:=AU FN;omega) K
 obtain⟨a,U,rfl,I,BB⟩:=D.cells
 rw[gX U3 (by simp[Qv])]
 unfold sN
 by_cases C:iX x=0
 ·rw[if_neg (by simp[C])]
  rw[C]at r
  have N:x.wf=true:=by
   unfold iX at C
   by_cases J:big x
   ·rw[if_pos J]at C;cases C
   ·rw[if_neg J]at C
    cases D:x.wf with
    |true=>rfl
    |false=>rw[D]at C;cases C
  have E:=E C N
  generalize x.ty (clk l (kI l l.length)) scope=q at E ⊢
  simp only[qA,seval,iR,iy,Qv,r,BY,I.froz1,aj9,apn,apo,hl.froz,E,Vs,Vt,H.froz1,Ty.froz1]
 ·rw[if_pos C]
  generalize iX x=e at r C ⊢
  simp only[qA,seval,Qv,r,BY,I.froz1,C]
end
theorem E5{α:Type}: ∀(A R:List α) (j:Nat) (i:List α),splice (A++R) (A.length+j) i=A++splice R j i
 | [],R,j,i=>by simp
 |a::A,R,j,i=>by
  rw[List.cons_append,List.length_cons,show A.length+1+j=(A.length+j)+1 by omega,splice,E5 A R j i];rfl
theorem Cw{α:Type}: ∀(z R i:List α),i.length=z.length→splice (z++R) 0 i=i++R
 | [],R,[],_=>by cases R <;> rfl
 |c::z,R,v::i,h=>by rw[List.cons_append,splice,Cw z R i (by simpa using h)];rfl
theorem E6{α:Type}(A z R i:List α)(k:Nat)(hk:A.length=k)(h:i.length=z.length):splice (A++(z++R)) k i=(A++i)++R:=by
 have:=E5 A (z++R) 0 i
 rw[Nat.add_zero,hk]at this
 rw[this,Cw z R i h,List.append_assoc]
theorem BT{α:Type}(z:List α)(n:Nat):repl z (n+1)=z++repl z n:=rfl
theorem E7{α:Type}(z:List α): ∀n,(repl z n).length=n*z.length
 |0=>by simp[repl]
 |n+1=>by rw[BT,List.length_append,E7 z n,Nat.succ_mul,Nat.add_comm]
def jh(l:Cs):Nat→List (List Nat×Nat)
 |0=> []
 |n+1=>match iF (jh l n) (l.getD n ([],.mk 0 0 [] [])).1 with
  |none=>jh l n++ [((l.getD n ([],.mk 0 0 [] [])).1,n)]
  |some _=>jh l n
theorem BU(l:Cs){n:Nat}(h:n<l.length):jh l (n+1)=match iF (jh l n) l[n].1 with
  |none=>jh l n++ [(l[n].1,n)]
  |some _=>jh l n:=by
 rw[jh];simp[List.getD_eq_getElem?_getD,List.getElem?_eq_getElem h]
theorem Hn(s:List Nat)(c:List Nat×Ex): ∀l:Cs,k8 (l++ [c]) s=match k8 l s with|some i=>some i|none=>if c.1=s then some l.length else none
 | []=>by simp[k8]
 |d::l=>by
  rw[List.cons_append,k8,k8,Hn s c l]
  by_cases h:d.1=s
  ·simp[h]
  ·rw[if_neg h,if_neg h]
   cases k8 l s with
   |some i=>rfl
   |none=>by_cases r:c.1=s <;> simp[r]
theorem xR(l:Cs)(s:List Nat): ∀n,n≤l.length→iF (jh l n) s=k8 (l.take n) s
 |0,_=>by simp[jh,iF,k8]
 |n+1,h=>by
  have C:n<l.length:=by omega
  rw[BU l C,List.take_succ_eq_append_getElem C,Hn]
  have ih:=xR l s n (by omega)
  have r:=xR l l[n].1 n (by omega)
  cases hl:iF (jh l n) l[n].1 with
  |none=>
   simp only
   rw[rm,ih]
   cases k8 (l.take n) s with
   |some i=>rfl
   |none=>
    simp only[List.length_take,Nat.min_eq_left (Nat.le_of_lt C)]
    by_cases e:s=l[n].1
    ·simp[e]
    ·rw[if_neg e,if_neg (fun h=>e h.symm)]
  |some i=>
   simp only
   rw[ih]
   cases hi:k8 (l.take n) s with
   |some j=>rfl
   |none=>
    simp only
    rw[if_neg]
    intro e
    rw[hl,e,hi]at r
    cases r
def sK(s:List Nat):T:= .s s
def nK(n:Nat):T:= .i .i64 (n:Int)
def iV(n:Int):T:= .i .i64 n
theorem FL(a b:List Nat):xV (.one .str) (sK a) (sK b)=some (decide (a=b)):=art
theorem adr(a b:Nat):xV (.one .int) (nK a) (nK b)=some (decide (a=b)):=by
 unfold nK;rw[aru];congr 1;rw[decide_eq_decide];omega
def A4(lT:T)(m:List (List Nat×Nat))(kn:List (Nat×Int)):List gR:=
 [⟨1,.map (m.map fun p=>sK p.1) (m.map fun p=>nK p.2) false⟩,⟨1,.map (kn.map fun p=>nK p.1) (kn.map fun p=>iV p.2) false⟩,⟨1,.cells [lT,.mp .S 0 1,.mp .S 1 1] 0 true⟩]
section
variable(lT:T)(m:List (List Nat×Nat))(kn:List (Nat×Int))
theorem ch0:jr (A4 lT m kn) 0=⟨1,.map (m.map fun p=>sK p.1) (m.map fun p=>nK p.2) false⟩:=nr rfl
theorem ch1:jr (A4 lT m kn) 1=⟨1,.map (kn.map fun p=>nK p.1) (kn.map fun p=>iV p.2) false⟩:=nr rfl
theorem ch2:jr (A4 lT m kn) 2=⟨1,.cells [lT,.mp .S 0 1,.mp .S 1 1] 0 true⟩:=nr rfl
theorem ayu(i:List (List Nat×Nat)):jP (A4 lT m kn) 0 ⟨1,.map (i.map fun p=>sK p.1) (i.map fun p=>nK p.2) false⟩=A4 lT i kn:=nr rfl
theorem ayv(i:List (Nat×Int)):jP (A4 lT m kn) 1 ⟨1,.map (i.map fun p=>nK p.1) (i.map fun p=>iV p.2) false⟩=A4 lT m i:=nr rfl
theorem atr:A4 lT [] []= [⟨1,.map [] [] false⟩,⟨1,.map [] [] false⟩,⟨1,.cells [lT,.mp .S 0 1,.mp .S 1 1] 0 true⟩]:=nr rfl
end
def TF(r:Option Nat):T:=match r with|some v=> .tup [nK v,.b true]|none=> .tup [.i .i64 0,.b false]
theorem lkS(m:List (List Nat×Nat))(s:List Nat):nX (.one .str) (m.map fun p=>sK p.1) (m.map fun p=>nK p.2) (.s s) (.i .i64 0) true=some (TF (iF m s)):=by
 have:=aiV (kT:=sK) (vT:=nK) FL (fun _=>rfl) m s (.i .i64 0)
 rw[show(T.s s)=sK s from rfl,this];unfold TF;cases iF m s <;> rfl
section
variable(l:Cs)(lT:T)(cl:List T)(hl:g8 lT l.length cl)(lM:kD l cl)(hlen:l.length≤oQ)
include hl lM hlen
theorem ayw(fr:Fr)(lh:hJ gR)(sh:List gR)(U:sh=A4 lT [] [])
  (D:an fr 3= .ptr .S 2 1 0) (E:an fr 13=lT) (C:an fr 14= .i .i64 (l.length:Int)) (F:an fr 15= .i .i64 0):
  kV 41 uF fr lh sh (.ext 0)∧
  (kb pE 41 uF fr lh sh=A4 lT (jh l l.length) []):=by
 refine ib (P:=fun X Y V=>V=A4 lT (jh l l.length) [])
  (ij (fun k st=> ∃(fr:Fr) (I:hJ gR),st=⟨fr,I,A4 lT (jh l k) []⟩∧an fr 3= .ptr .S 2 1 0∧an fr 13=lT∧an fr 14= .i .i64 (l.length:Int)∧an fr 15= .i .i64 (k:Int)) _ l.length ?_ ?_ 0 _ (Nat.zero_le _) ⟨fr,lh,by rw[U];rfl,D,E,C,F⟩)
 ·rintro k _ hk ⟨fr,I,rfl,D,E,C,F⟩
  left
  have K:(k:Int)<l.length:=by omega
  have N:=iD (k:=k) (by omega)
  obtain⟨b,Z,r,O,jE,oV,hb⟩:=lL hl lM k hk
  have H:=lkS (jh l k) l[k].1
  rw[BU l hk]
  cases J:iF (jh l k) l[k].1 with
  |some i=>
   rw[J]at H
   unfold TF at H
   simp only[qA,seval,iR,iy,kq,uF,D,E,C,F,K,O,N,ch2,ch0,ju,H]
   refine⟨_,rfl,_,_,rfl, ?_, ?_, ?_, ?_⟩ <;> simp only[qA,seval,D,E,C]
  |none=>
   rw[J]at H
   unfold TF at H
   have W:rB (.one .str) (.s l[k].1) (.i .i64 (k:Int)) ((jh l k).map fun p=>sK p.1) ((jh l k).map fun p=>nK p.2)=_:=Aq (kT:=sK) (vT:=nK) FL (jh l k) l[k].1 k J
   simp only[qA,seval,iR,iy,kq,uF,D,E,C,F,K,O,N,ch2,ch0,ju,H,Ch,W,ayu]
   refine⟨_,rfl,_,_,rfl, ?_, ?_, ?_, ?_⟩ <;> simp only[qA,seval,D,E,C]
 ·rintro _ ⟨fr,I,rfl,D,E,C,F⟩
  simp only[qA,seval,uF,C,F,Int.lt_irrefl]
  exact⟨_,_,jB,rfl,rfl,rfl⟩
theorem akd:gS pE 143 [lT] []=some (.ptr .S 2 1 0,A4 lT (jh l l.length) []):=by
 have i:=fun fr lh sh=>ayw l lT cl hl lM hlen fr lh sh
 rw[atr]at i
 rw[gX aeh (by simp[T0])]
 simp only[qA,seval,mX,kq,T0,QA,hl.lenI,hl.cells,hl.noTup,hl.kept1,i]
end
theorem LD(l:Cs)(n:Nat): ∀k,∃r,kI l (n+k)=kI l n++r
 |0=>⟨[],by simp⟩
 |k+1=>by
  obtain⟨r,h⟩:=LD l n k
  rw[←Nat.add_assoc,kI,h]
  exact⟨_,List.append_assoc _ _ _⟩
theorem E8(l:Cs){n i:Nat}(C:n≤l.length)(hi:i<n):(kI l n).getD i (0,6)=(kI l l.length).getD i (0,6):=by
 obtain⟨r,h⟩:=LD l n (l.length-n)
 rw[show n+(l.length-n)=l.length by omega]at h
 rw[h,List.getD_eq_getElem?_getD,List.getD_eq_getElem?_getD,List.getElem?_append_left (by rw[ni];exact hi)]
def wa(l:Cs)(i:Nat):Int×Int:=(kI l l.length).getD i (0,6)
theorem IX(l:Cs){i:Nat}(hi:i<l.length):wa l i=vW (l.take i) (kI l i) l[i].2:=by
 unfold wa
 rw[←E8 l (n:=i+1) (by omega) (by omega),xQ l hi,List.getD_eq_getElem?_getD,List.getElem?_append_right (by rw[ni];omega),ni,Nat.sub_self]
 rfl
theorem ake{cl:List Nat→Int×Int}(lM: ∀s,(cl s).2≠0→(cl s).1=0)(scope:Int)(x:Ex)(h:(x.ty cl scope).2≠0):(x.ty cl scope).1=0:=by
 rw[Ex.ty_eq]at h ⊢
 by_cases i:x.op=6
 ·rw[if_pos i]at h ⊢
  by_cases r:ki scope x.name≠0
  ·rw[if_pos r]at h;exact absurd rfl h
  ·rw[if_neg r]at h ⊢; exact lM _ h
 ·rw[if_neg i]at h ⊢
  cases C:pv cl scope x.args with
  |error e=>rfl
  |ok ts=>
   rw[C]at h
   simp only at h ⊢
   split at h
   ·rename_i D;rw[if_pos D]
   ·exact absurd rfl h
theorem ads(l:Cs)(wP:List (Int×Int))(h: ∀t∈wP,t.2≠0→t.1=0)(s:List Nat):(clk l wP s).2≠0→(clk l wP s).1=0:=by
 unfold clk
 cases k8 l s with
 |none=>intro _;rfl
 |some i=>
  simp only
  rw[List.getD_eq_getElem?_getD]
  cases hi:wP[i]? with
  |none=>intro _;rfl
  |some t=>exact h t (List.mem_of_getElem? hi)
theorem E9(l:Cs): ∀n,∀t∈kI l n,t.2≠0→t.1=0
 |0=>by simp[kI]
 |n+1=>by
  intro t ht
  rw[kI]at ht
  rcases List.mem_append.1 ht with ht|ht
  ·exact E9 l n t ht
  ·rw[List.mem_singleton]at ht
   subst ht
   unfold vW
   split
   ·intro _;rfl
   ·exact ake (ads _ _ (E9 l n)) _ _
section
variable(l:Cs)(lT:T)(cl:List T)(hl:g8 lT l.length cl)(lM:kD l cl)(hlen:l.length≤oQ)(qJ:Ym l)
def AV(kn:List (Nat×Int)):Prop:= ∀i t,iF kn i=some t→i<l.length∧wa l i=(t,0)
def akf(j:Nat):Prop:= ∀kn,AV l kn→ ∃r,gS pE 144 [.ptr .S 2 1 0,.i .i64 (j:Int)] (A4 lT (jh l l.length) kn)=some (.tup [.i .i64 (wa l j).1,.i .i64 (wa l j).2],A4 lT (jh l l.length) r)∧AV l r∧ ∀i,j<i→iF r i=iF kn i
def Ho(n:Nat):List Nat→Int×Int:=clk (l.take n) (kI l n)
def att(n:Nat)(scope:Int)(y:Ex):Prop:= ∀kn,AV l kn→ ∀cs:List T,lK y cs→y.nodes≤100000→y.wf=true→ ∃r,gS pE 275 [.ptr .S 2 1 0,.i .i64 scope,.i .i64 (n:Int),.agg cs] (A4 lT (jh l l.length) kn)=some (.tup [.i .i64 (y.ty (Ho l n) scope).1,.i .i64 (y.ty (Ho l n) scope).2],A4 lT (jh l l.length) r)∧AV l r∧ ∀i,n≤i→iF r i=iF kn i
include hl
theorem ayx(n:Nat)(scope:Int)(xs:List Ex)(ih: ∀y∈xs,att l lT n scope y)(a:T)(cc:List T)(ha:g8 a xs.length cc)(hx:jN xs cc)(hn:jt xs≤100000)(tu:sM xs=true)(kn:List (Nat×Int))(oH:AV l kn)(r:Except Int (List Int))(hr:r=pv (Ho l n) scope xs)(o:Out)(ho:o=N4 r)(g:Nat)(Y:gR)(fr:Fr)(lh:hJ gR)(sh:List gR)(kN:sh=A4 lT (jh l l.length) kn)
  (F:an fr 0= .ptr .S 2 1 0) (H:an fr 1= .i .i64 scope) (I:an fr 2= .i .i64 (n:Int)) (N:an fr 14= .isl .L 57 g 0 xs.length 1) (CM:an fr 59=a) (BR:an fr 60= .i .i64 (xs.length:Int)) (CN:an fr 61= .i .i64 0) (Jn:a6 lh 57=⟨g,.cells (repl [.i .i64 0] xs.length) 0 false⟩) (J:a6 lh 7=Y):
  kV 89 oq fr lh sh o∧
  ((∀e,r= .error e→an (kh pE 89 oq fr lh sh) 8= .i .i64 0∧an (kh pE 89 oq fr lh sh) 9= .i .i64 e)∧(∀ts,r= .ok ts→a6 (kH pE 89 oq fr lh sh) 57=⟨g,.cells (ints ts) 0 false⟩)∧
    a6 (kH pE 89 oq fr lh sh) 7=Y∧ ∃E,kb pE 89 oq fr lh sh=A4 lT (jh l l.length) E∧AV l E∧ ∀i,n≤i→iF E i=iF kn i):=by
 have _:=hl
 refine ib (P:=fun iq il iw=>(∀e,r= .error e→an iq 8= .i .i64 0∧an iq 9= .i .i64 e)∧(∀ts,r= .ok ts→a6 il 57=⟨g,.cells (ints ts) 0 false⟩)∧a6 il 7=Y∧ ∃E,iw=A4 lT (jh l l.length) E∧AV l E∧ ∀i,n≤i→iF E i=iF kn i)
  (ij (fun k st=> ∃(fr:Fr) (O:hJ gR) (ts:List Int) (KZ:List (Nat×Int)),st=⟨fr,O,A4 lT (jh l l.length) KZ⟩∧an fr 0= .ptr .S 2 1 0∧an fr 1= .i .i64 scope∧an fr 2= .i .i64 (n:Int)∧an fr 14= .isl .L 57 g 0 xs.length 1∧an fr 59=a∧an fr 60= .i .i64 (xs.length:Int)∧an fr 61= .i .i64 (k:Int)∧a6 O 7=Y∧
    a6 O 57=⟨g,.cells (ints ts++repl [.i .i64 0] (xs.length-k)) 0 false⟩∧ts.length=k∧r=IW ts (pv (Ho l n) scope (xs.drop k))∧AV l KZ∧ ∀i,n≤i→iF KZ i=iF kn i) _ xs.length ?_ ?_ 0 _ (Nat.zero_le _) ⟨fr,lh,[],kn,by rw[kN],F,H,I,N,CM,BR,CN,J,by rw[Jn];rfl,rfl,by rw[hr,List.drop_zero];cases pv (Ho l n) scope xs <;> rfl,oH,fun _ _=>rfl⟩)
 ·rintro k _ Cr ⟨fr,O,ts,KZ,rfl,F,H,I,N,CM,BR,CN,J,Jn,Z,C,N9,LF⟩
  have iu:(k:Int)<xs.length:=by omega
  have DY:=jR xs
  have hyk:=mj (List.getElem_mem Cr)
  have hw:=iD (k:=k) (ku (by omega))
  obtain⟨b,cb,rr,iv,jE,oV,hb⟩:=mY ha hx k Cr
  obtain⟨PE,K,U,V⟩:=ih xs[k] (List.getElem_mem Cr) KZ N9 _ hb (by omega) (xE.1 tu _ (List.getElem_mem Cr))
  rw[LC Cr]at C
  by_cases D:(xs[k].ty (Ho l n) scope).2=0
  ·left
   rw[if_neg (by simp[D]),Hm]at C
   generalize xs[k].ty (Ho l n) scope=q at K D C
   obtain⟨W,q2⟩:=q
   simp only at K D C
   subst D
   have ZT:(ints ts++repl [T.i .i64 0] (xs.length-k)).length=xs.length:=by rw[List.length_append,kg,E7,Z];simp;omega
   have CV:splice (ints ts++repl [T.i .i64 0] (xs.length-k)) k [.i .i64 W]=ints (ts++ [W])++repl [T.i .i64 0] (xs.length-(k+1)):=by
    rw[show xs.length-k=(xs.length-(k+1))+1 by omega,BT,E6 (ints ts) [T.i .i64 0] _ [T.i .i64 W] k (by rw[kg];exact Z) rfl,rW]
   have akg:k+1≤xs.length:=by omega
   simp only[qA,seval,kq,oq,F,H,I,N,CM,BR,CN,Jn,iu,iv,hw,K,VG,jE.kept1,Cr,ZT,CV,akg]
   refine⟨_,rfl,_,_,ts++ [W],PE,rfl, ?_, ?_, ?_, ?_, ?_, ?_, ?_, ?_, ?_,by simp[Z],C,U,fun i hi=>by rw[V i hi,LF i hi]⟩
   all_goals first|(simp only[qA,seval,F,H,I,N,CM,BR,J];done)|skip
  ·right
   rw[if_pos (by simp[D])]at C
   generalize xs[k].ty (Ho l n) scope=q at K D C
   obtain⟨W,q2⟩:=q
   simp only at K D C
   simp only[qA,seval,kq,oq,F,H,I,CM,BR,CN,iu,iv,K,VG,jE.kept1,D]
   refine⟨_,_,jJ,rfl,by rw[ho,C];rfl,fun e he=> ?_,fun t X=>(by rw[C]at X;cases X),by simp only[qA,seval,J],PE,rfl,U,fun i hi=>by rw[V i hi,LF i hi]⟩
   rw[C]at he
   cases he
   exact⟨by simp only[qA,seval],by simp only[qA,seval]⟩
 ·rintro _ ⟨fr,O,ts,KZ,rfl,F,H,I,N,CM,BR,CN,J,Jn,Z,C,N9,LF⟩
  rw[List.drop_length,pv,IW,List.append_nil]at C
  rw[Nat.sub_self,show repl [T.i .i64 0] 0= []from rfl,List.append_nil]at Jn
  simp only[qA,seval,oq,BR,CN,Int.lt_irrefl]
  refine⟨_,_,jB,rfl,by rw[ho,C];rfl,fun e he=>(by rw[C]at he;cases he),fun t X=> ?_,J,KZ,rfl,N9,LF⟩
  rw[C]at X
  cases X
  exact Jn
include lM hlen
theorem akh(n:Nat)(Gy:n≤l.length)(hc: ∀j,j<n→akf l lT j)(scope:Int)(x:Ex):att l lT n scope x:=by
 have _:=hlen
 have _:=lM
 induction x using Ex.ind with
 |h x ih=>
  intro kn oH cs hx hn tu
  obtain⟨a,cc,rfl,ha,BB⟩:=hx.cells
  rw[gX afv (by simp[Dm]),Ex.ty_eq]
  have hnd:=x.nodes_eq
  rw[Ex.wf_eq,Bool.and_eq_true]at tu
  obtain⟨tp,Bl⟩:=tu
  have W:=KE scope x.name
  have wD:=jR x.args
  have CJ:x.args.length≤oQ:=ku (by omega)
  simp only[oD,Bool.and_eq_true,decide_eq_true_eq]at tp
  obtain⟨aka,akb,jy,_,_⟩:=tp
  by_cases N:x.op=6
  ·rw[if_pos N]
   unfold tW at W
   by_cases O:ki scope x.name=0
   ·rw[if_neg (by simp[O])]
    rw[if_pos O,O]at W
    have V:=lkS (jh l l.length) x.name
    rw[xR l x.name l.length (Nat.le_refl _),List.take_length]at V
    have ZR:Ho l n x.name=match k8 l x.name with|some i=>if i<n then wa l i else(0,6)|none=>(0,6):=by
     unfold Ho clk
     rw[xP]
     cases hi:k8 l x.name with
     |none=>rfl
     |some i=>
      simp only
      by_cases U:i<n
      ·rw[if_pos U,if_pos U];exact E8 l Gy U
      ·rw[if_neg U,if_neg U]
    rw[ZR]
    cases hi:k8 l x.name with
    |none=>
     rw[hi]at V
     unfold TF at V
     simp only[qA,seval,Dm,N,W,Ge,ch2,ch0,ju,V]
     exact⟨kn,rfl,oH,fun _ _=>rfl⟩
    |some i=>
     rw[hi]at V
     rw[show TF (some i)= .tup [.i .i64 (i:Int),.b true]from rfl]at V
     by_cases U:i<n
     ·obtain⟨r,gZ,oj,Zd⟩:=hc i U kn oH
      have Y:(i:Int)<n:=by omega
      simp only[U,if_true]
      simp only[qA,seval,kq,Dm,N,W,Ge,ch2,ch0,ju,V,Y,gZ,U7]
      exact⟨r,rfl,oj,fun j hj=>Zd j (by omega)⟩
     ·have Y: ¬(i:Int)<n:=by omega
      simp only[U,if_false]
      simp only[qA,seval,Dm,N,W,Ge,ch2,ch0,ju,V,Y]
      exact⟨kn,rfl,oH,fun _ _=>rfl⟩
   ·rw[if_pos O]
    rw[if_neg O]at W
    simp only[qA,seval,Dm,N,W,Ge]
    exact⟨kn,rfl,oH,fun _ _=>rfl⟩
  ·rw[if_neg N]
   have hL:=fun D fr lh sh E F H I J CM BR CN Jn K=>ayx l lT cl hl n scope x.args (fun y hy=>ih y hy) a cc ha BB (by omega) Bl kn oH _ rfl _ rfl 1 D fr lh sh E F H I J CM BR CN Jn K
   have Z:x.args.length*8≤roomy∧x.args.length≤roomy:=by unfold oQ at CJ;unfold roomy;omega
   have hS:=fun D fr lh sh E F H I J CM BR CN Jn K=>(hL D fr lh sh E F H I J CM BR CN Jn K).2.2.2.2
   cases hr:pv (Ho l n) scope x.args with
   |error e=>
    have C:=fun D fr lh sh E F H I J CM BR CN Jn K=>And.intro (hL D fr lh sh E F H I J CM BR CN Jn K).1 ((hL D fr lh sh E F H I J CM BR CN Jn K).2.1 e hr)
    simp only[hr,N4]at C
    simp only[qA,seval,Dm,N,ha.lenI,Z,C]
    generalize hX:kb _ _ _ _ _ _=X
    obtain⟨r,e1,e2,e3⟩: ∃r,X=A4 lT (jh l l.length) r∧AV l r∧ ∀i,n≤i→iF r i=iF kn i:=by
     rw[←hX]
     refine hS _ _ _ _ rfl ?_ ?_ ?_ ?_ ?_ ?_ ?_ ?_ rfl <;> simp only[qA,seval]
    rw[e1];exact⟨r,rfl,e2,e3⟩
   |ok ts=>
    have E2:=vF hr
    have C:=fun D fr lh sh E F H I J CM BR CN Jn K=>And.intro (hL D fr lh sh E F H I J CM BR CN Jn K).1 (hL D fr lh sh E F H I J CM BR CN Jn K).2.2.2.1
    have hF:=fun D fr lh sh E F H I J CM BR CN Jn K=>(hL D fr lh sh E F H I J CM BR CN Jn K).2.2.1 ts hr
    have qI:(ints ts).length=x.args.length:=by rw[kg,E2]
    have hit:List.take x.args.length (ints ts)=ints ts:=List.take_of_length_le (by omega)
    simp only[hr,N4]at C
    have z8:=N2 x.op ts (.sl (ints ts) x.args.length false) (Or.inr ⟨false,by rw[E2]⟩) (by rw[E2];exact CJ) aka akb N (by rw[E2];exact jy)
    by_cases O:mH x.op ts=0
    ·rw[O]at z8
     simp only[qA,seval,Dm,F9,N,ha.lenI,Z,C ⟨1,.cells [.i .i64 x.op,.i .i64 x.num,.s x.name,a] 0 true⟩,hF ⟨1,.cells [.i .i64 x.op,.i .i64 x.num,.s x.name,a] 0 true⟩,z8,afP,O,qI,hit]
     generalize hX:kb _ _ _ _ _ _=X
     obtain⟨r,e1,e2,e3⟩: ∃r,X=A4 lT (jh l l.length) r∧AV l r∧ ∀i,n≤i→iF r i=iF kn i:=by
      rw[←hX]
      refine hS _ _ _ _ rfl ?_ ?_ ?_ ?_ ?_ ?_ ?_ ?_ rfl <;> simp only[qA,seval]
     rw[e1];exact⟨r,rfl,e2,e3⟩
    ·simp only[qA,seval,Dm,F9,N,ha.lenI,Z,C ⟨1,.cells [.i .i64 x.op,.i .i64 x.num,.s x.name,a] 0 true⟩,hF ⟨1,.cells [.i .i64 x.op,.i .i64 x.num,.s x.name,a] 0 true⟩,z8,afP,O,qI,hit]
     generalize hX:kb _ _ _ _ _ _=X
     obtain⟨r,e1,e2,e3⟩: ∃r,X=A4 lT (jh l l.length) r∧AV l r∧ ∀i,n≤i→iF r i=iF kn i:=by
      rw[←hX]
      refine hS _ _ _ _ rfl ?_ ?_ ?_ ?_ ?_ ?_ ?_ ?_ rfl <;> simp only[qA,seval]
     rw[e1];exact⟨r,rfl,e2,e3⟩
end
theorem na{x:Ex}(i:iX x=0):x.wf=true:=by
 unfold iX at i
 by_cases r:big x
 ·rw[if_pos r]at i;cases i
 ·rw[if_neg r]at i
  cases C:x.wf with
  |true=>rfl
  |false=>rw[C]at i;cases i
section
variable(l:Cs)(lT:T)(cl:List T)(hl:g8 lT l.length cl)(lM:kD l cl)(hlen:l.length≤oQ)(qJ:Ym l)
include hl lM hlen
def S4(n:Nat)(scope:Int)(x:Ex):Int×Int:=if iX x≠0 then(0,iX x)else x.ty (Ho l n) scope
theorem Ze(n:Nat)(Gy:n≤l.length)(I: ∀j,j<n→akf l lT j)(scope:Int)(x:Ex)(cs:List T)(E:lK x cs)(J:0≤x.nodes)(hs:x.sm)(kn:List (Nat×Int))(H:AV l kn):
  ∃D,gS pE 231 [.ptr .S 2 1 0,.i .i64 scope,.i .i64 (n:Int),.agg cs] (A4 lT (jh l l.length) kn)=some (.tup [.i .i64 (S4 l n scope x).1,.i .i64 (S4 l n scope x).2],A4 lT (jh l l.length) D)∧AV l D∧ ∀i,n≤i→iF D i=iF kn i:=by
 have r:=fun z fr lh sh=>uh (z:=z) (fr:=fr) (lh:=lh) (sh:=sh) x cs E J hs
 have F:=fun h=>akh l lT cl hl lM hlen n Gy I scope x kn H cs E h
 obtain⟨a,V,rfl,K,BB⟩:=E.cells
 rw[gX aeZ (by simp[QS])]
 unfold S4
 by_cases C:iX x=0
 ·rw[if_neg (by simp[C])]
  obtain⟨D,N,O,U⟩:=F (by have:=AU C;omega) (na C)
  rw[C]at r
  simp only[qA,seval,kq,QS,r,N,VG,K.kept1]
  exact⟨D,rfl,O,U⟩
 ·rw[if_pos C]
  generalize iX x=e at r C ⊢
  simp only[qA,seval,QS,r,C]
  exact⟨kn,rfl,H,fun _ _=>rfl⟩
include qJ
theorem Zf: ∀j,j<l.length→akf l lT j:=by
 intro j
 induction j using Nat.strongRecOn with
 |ind j ih=>
  intro H kn K
  obtain⟨b,cb,r,N,O,oV,W⟩:=lL hl lM j H
  obtain⟨Qf,N5⟩:=qJ l[j] (List.getElem_mem H)
  obtain⟨D,E,U,Zd⟩:=Ze l lT cl hl lM hlen j (by omega) (fun i hi=>ih i hi (by omega)) 0 l[j].2 _ W Qf N5 kn K
  have FA:wa l j=S4 l j 0 l[j].2:=by rw[IX l H];rfl
  rw[←FA]at E
  have C:(wa l j).2≠0→(wa l j).1=0:=by
   unfold wa
   rw[List.getD_eq_getElem?_getD,List.getElem?_eq_getElem (by rw[ni];exact H)]
   exact E9 l _ _ (List.getElem_mem _)
  have F:nX (.one .int) (kn.map fun p=>nK p.1) (kn.map fun p=>iV p.2) (.i .i64 (j:Int)) (.i .i64 0) true=_:=aiV (kT:=nK) (vT:=iV) adr (fun _=>rfl) kn j (.i .i64 0)
  rw[gX aei (by simp[Ml])]
  cases I:iF kn j with
  |some t=>
   obtain⟨_,X⟩:=K j t I
   rw[I]at F
   simp only[show iV t= .i .i64 t from rfl]at F
   rw[X]
   simp only[qA,seval,Ml,ch2,ch1,ju,F]
   exact⟨kn,rfl,K,fun _ _=>rfl⟩
  |none=>
   rw[I]at F
   generalize he:wa l j=q at E C ⊢
   obtain⟨V,Y⟩:=q
   simp only at E C ⊢
   by_cases J:Y=0
   ·subst J
    have Z:iF D j=none:=by rw[Zd j (Nat.le_refl _),I]
    have nF:rB (.one .int) (.i .i64 (j:Int)) (.i .i64 V) (D.map fun p=>nK p.1) (D.map fun p=>iV p.2)=_:=Aq (kT:=nK) (vT:=iV) adr D j V Z
    simp only[qA,seval,kq,Ml,ch2,ch1,ju,F,N,O.kept1,E,JO,ago,nF,ayv]
    refine⟨_,rfl, ?_, ?_⟩
    ·intro i t hi
     rw[rm]at hi
     cases Rw:iF D i with
     |some u=>rw[Rw]at hi;cases hi;exact U i _ Rw
     |none=>
      rw[Rw]at hi
      simp only at hi
      split at hi
      ·rename_i e;subst e;cases hi;exact⟨H,he⟩
      ·cases hi
    ·intro i hi
     rw[rm,Zd i (by omega)]
     cases iF kn i with
     |some u=>rfl
     |none=>simp only;rw[if_neg (by omega)]
   ·rw[C J]
    rw[C J]at E
    simp only[qA,seval,kq,Ml,ch2,ch1,ju,F,N,O.kept1,E,JO,J]
    exact⟨D,rfl,U,fun i hi=>Zd i (by omega)⟩
end
end Go.Proofs.YtblcbheipjeoeaaGreat
