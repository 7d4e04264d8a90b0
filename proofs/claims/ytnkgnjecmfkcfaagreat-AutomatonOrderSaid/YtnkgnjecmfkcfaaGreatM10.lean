/- Walks of functions of the program and of the reference, and their plain laws, part 10. Conditions: the theorems' own. -/
import Derived.Test.YtnkgnjecmfkcfaaGreatGS
import Derived.Test.YtnkgnjecmfkcfaaGreatM5
import Derived.Test.YtnkgnjecmfkcfaaGreatM9
import Derived.KernelRfl
set_option maxRecDepth 100000
set_option linter.unusedSimpArgs false
set_option linter.unusedVariables false
set_option maxHeartbeats 16000000
namespace Go.Proofs.YtnkgnjecmfkcfaaGreat
open Go Go.Ev
def AQ(sz:Nat):T→Bool
 | .sl r 1 _=>decide (r.length=sz∧0<sz)
 |_=>false
def Dj(sz:Nat):T→Bool
 | .nilsl=>true
 | .isl .S _ _ 0 _ r=>decide (r=sz)
 |_=>false
def Ny(sh:List ah)(k bytes g len sz:Nat)(r:List T)(e:ah):Option (T×List ah):=match e.ob with
 | .cells cs D false=>if e.g=g∧len*sz=cs.length∧(len+1)*bytes≤roomy then some (.isl .S k (g+1) 0 (len+1) sz,bD sh k ⟨g+1,.cells (cs++r) D false⟩)else none
 |_=>none
def akU(sh:List ah)(bytes sz:Nat):T→T→Option (T×List ah)
 | .nilsl,.sl r 1 _=>if bytes≤roomy then some (.isl .S sh.length 1 0 1 sz,bD sh sh.length ⟨1,.cells r 0 false⟩)else none
 | .isl .S k g 0 len _,.sl r 1 _=>Ny sh k bytes g len sz r (aI sh k)
 |_,_=>none
theorem aY{sz:Nat}{r:List T}{ex:Bool}:AQ sz (.sl r 1 ex)=decide (r.length=sz∧0<sz):=nr rfl
theorem cP{sz:Nat}:Dj sz .nilsl=true:=nr rfl
theorem dw{k g len sz r:Nat}:Dj sz (.isl .S k g 0 len r)=decide (r=sz):=nr rfl
theorem dc{sh:List ah}{bytes sz:Nat}{r:List T}{ex:Bool}:akU sh bytes sz .nilsl (.sl r 1 ex)=if bytes≤roomy then some (.isl .S sh.length 1 0 1 sz,bD sh sh.length ⟨1,.cells r 0 false⟩)else none:=nr rfl
theorem dU{sh:List ah}{k g len bytes sz D:Nat}{r:List T}{ex:Bool}:akU sh bytes sz (.isl .S k g 0 len D) (.sl r 1 ex)=Ny sh k bytes g len sz r (aI sh k):=nr rfl
theorem cz{sh:List ah}{k g r len bytes D sz:Nat}{F:List T}{cs:List T}:Ny sh k bytes g len sz F ⟨r,.cells cs D false⟩=if r=g∧len*sz=cs.length∧(len+1)*bytes≤roomy then some (.isl .S k (g+1) 0 (len+1) sz,bD sh k ⟨g+1,.cells (cs++F) D false⟩)else none:=nr rfl
theorem Dk{sz:Nat}{t:T}(h:AQ sz t=true): ∃r ex,t= .sl r 1 ex∧r.length=sz∧0<sz:=by
 unfold AQ at h
 grind
theorem Iy{sz:Nat}{t:T}(h:Dj sz t=true):t= .nilsl∨ ∃k g len,t= .isl .S k g 0 len sz:=by
 unfold Dj at h
 grind
section
variable{E:Env}{call:jB}{n:Nat}{fr:Fr}{lh:aE ah}{sh:List ah}{ds:List (List Nat×aF)}{bo:List FP}{d:Option Nat}{os:List aF}
theorem cM{F sz bytes:Nat}{s x:aP}(K:F<n)(hx:AQ sz (rd fr x)=true)(hs:Dj sz (rd fr s)=true):ai E call n (⟨some F,.app sz bytes s x true false,none⟩::os) ⟨fr,lh,sh⟩=
  (akU sh bytes sz (rd fr s) (rd fr x)).bind fun q=>ai E call n os ⟨cL fr F q.1,lh,q.2⟩:=by
 obtain⟨N,ex,hx,V,O⟩:=Dk hx
 have r:N.length=1*sz:=zZ
 rw[ko (by rfl) (show B6 n (some F)from K)]
 unfold Ev.one
 rcases Iy hs with hs|⟨k,g,len,hs⟩
 ·simp only[bt,jA,bp,hs,hx,cp,r,if_true,Q.run,Option.bind_some,dc]
  simp only[Nat.succ_ne_zero,if_false,Nat.one_mul]
  by_cases D:bytes≤roomy
  ·simp only[if_pos D,iW,Q.run,if_true];rfl
  ·simp only[if_neg D,Q.run];rfl
 ·have ZV:(St.mk fr lh sh).get .S k=aI sh k:=rfl
  rw[hs,hx,dU]
  generalize W:aI sh k=e at*
  obtain⟨U,ob⟩:=e
  unfold Ny
  simp only[bt,jA,bp,hs,hx,cp,r,if_true,Q.run,Option.bind_some]
  simp only[Nat.succ_ne_zero,if_false,decide_true,Bool.true_and,decide_eq_true_eq]
  by_cases D:(len+1)*bytes≤roomy
  ·simp only[Q.run,ZV,if_true,D,and_true]
   by_cases H:U=g
   ·subst H
    simp only[if_true,true_and]
    cases ob with
    |none=>simp only[Q.run];rfl
    |map _ _ _=>simp only[Q.run];rfl
    |cells cs I bx=>
     cases bx with
     |true=>simp only[Q.run];rfl
     |false=>
      simp only[]
      by_cases J:len*sz=cs.length
      ·simp only[if_pos J,Q.run];rfl
      ·simp only[if_neg J,Q.run];rfl
   ·simp only[Q.run,H,false_and,if_false]
    cases ob with
    |none=>rfl
    |map _ _ _=>rfl
    |cells cs I bx=>cases bx <;> rfl
  ·simp only[D,if_false,Q.run,and_false]
   cases ob with
   |none=>rfl
   |map _ _ _=>rfl
   |cells cs I bx=>cases bx <;> rfl
def mn(n:Nat):T→FP
 | .isl .S k _ _ _ _=>⟨false,[(.S,k)],[(.S,k)]⟩
 |_=>⟨true,[],[(.S,n)]⟩
theorem bN{rs r:List (Sp×Nat)}{m:Nat}{t:T}(h1:Gn rs=true)(h2:Gn r=true):apart ⟨false,rs,r⟩ (mn m t)=true:=by
 have q: ∀(xs:List (Sp×Nat)) (k:Nat),Gn xs=true→(xs.all fun x=> !([(Sp.S,k)]:List (Sp×Nat)).contains x)=true:=by
  intro xs k h
  rw[List.all_eq_true]
  intro x hx
  have:=List.all_eq_true.1 h x hx
  grind
 have D: ∀(xs:List (Sp×Nat)),(xs.all fun x=> !([]:List (Sp×Nat)).contains x)=true:=by intro xs;rw[List.all_eq_true];intro x _;rfl
 unfold mn
 split
 ·unfold apart eu
  rw[q r _ h2,q rs _ h1];rfl
 ·unfold apart eu
  dsimp only
  rw[q r _ h2,q rs _ h1,D,h1,h2];rfl
theorem cV{u:List Nat}{F sz bytes:Nat}{s x:aP}(hx:AQ sz (rd fr x)=true)(hs:Dj sz (rd fr s)=true):aK E call n ((u,⟨some F,.app sz bytes s x true false,none⟩)::ds) bo ⟨fr,lh,sh⟩=
  if meets u bo (mn sh.length (rd fr s))=true then ke E call n ds (bo++ [mn sh.length (rd fr s)]) (ai E call n [⟨some F,.app sz bytes s x true false,none⟩] ⟨fr,lh,sh⟩)else none:=by
 refine mJ fun H=> ?_
 obtain⟨J,ex,hx,K,N⟩:=Dk hx
 have O:cp sz (rd fr x)= .ret (1,J):=by rw[hx];simp only[cp,Nat.one_mul,K,if_true]
 obtain⟨v,U,hr,r⟩:=pD (q:=jA F sz bytes (rd fr s) (rd fr x) true false) (by rfl) (by rw[dh];rfl) H
 unfold jA at hr r
 rw[O]at hr r
 simp only[Q.bind,Nat.one_ne_zero,if_false]at hr r
 rcases Iy hs with hs|⟨k,g,len,hs⟩
 ·rw[hs]at hr r ⊢
  simp only at hr r
  by_cases D:1*bytes≤roomy
  ·rw[if_pos D]at hr r
   simp only[iW,if_true,Q.run,Option.some.injEq,zF.val.injEq]at hr
   obtain⟨rfl,rfl⟩:=hr
   rw[r (by simp[iW,Q.asks])]
   rfl
  ·rw[if_neg D]at hr
   simp[Q.run]at hr
 ·rw[hs]at hr r ⊢
  simp only[decide_true,Bool.true_and,decide_eq_true_eq]at hr r
  by_cases D:(len+1)*bytes≤roomy
  ·rw[if_pos (by simp[D])]at hr r
   simp only[Q.run]at hr
   generalize I:(St.mk fr lh sh).get .S k=e at hr r
   obtain⟨X,ob⟩:=e
   simp only at hr
   split at hr
   ·rename_i V
    cases ob with
    |none=>simp[Q.run]at hr
    |map a b c=>simp[Q.run]at hr
    |cells J8 Y bx=>
     cases bx with
     |true=>simp[Q.run]at hr
     |false=>
      simp only at hr
      split at hr
      ·rename_i W
       simp only[Q.run,Option.some.injEq,zF.val.injEq]at hr
       obtain⟨rfl,rfl⟩:=hr
       rw[r (by simp[inB,xq,I])]
       simp only[Q.asks,Q.log,I,V,W,if_true,cS,List.map_cons,List.map_nil,mn]
      ·simp[Q.run]at hr
   ·simp[Q.run]at hr
  ·rw[if_neg (by simp[D])]at hr
   simp[Q.run]at hr
end
mutual
def Fm.us(p:Int):Fm→Bool
 | .mk op num args=>if op=6 then decide (num=p)else usL p args
def usL(p:Int):List Fm→Bool
 | []=>false
 |x::xs=>x.us p||usL p xs
end
theorem Fm.us_eq(p:Int)(x:Fm):x.us p=if x.op=6 then decide (x.num=p)else usL p x.args:=by obtain⟨_,_,_⟩:=x;rw[Fm.us];rfl
theorem Iz: ∀xs:List Fm,xs.length≤sO xs
 | []=>by simp[sO]
 |x::xs=>by
  have h1:=Iz xs
  have h2:=x.sz_eq
  rw[sO,List.length_cons];omega
mutual
theorem yA(r:List Nat→Int)(scope:Int): ∀x:Ex,(comp r scope x).sz≤x.nodes
 | .mk op num name args=>by
   have h:=IA r scope args
   rw[Ex.nodes_eq,mq]
   show Fm.sz (if op=1∨op=2∨op=3 then .mk 1 num []else if op=4 then .mk 1 1 []else if op=5 then .mk 1 0 []else if op=6 then(match Kb scope name with|some i=> .mk 6 (i:Int) []|none=> .mk 1 (r name) [])else .mk op 0 (eG r scope args))≤1+fO args
   have l: ∀(a b:Int),Fm.sz (.mk a b [])≤1+fO args:=fun a b=>by rw[Fm.sz_eq];show 1+sO []≤_;rw[sO];omega
   split
   ·exact l _ _
   split
   ·exact l _ _
   split
   ·exact l _ _
   split
   ·split <;> exact l _ _
   ·rw[Fm.sz_eq];show 1+sO (eG r scope args)≤_;omega
theorem IA(r:List Nat→Int)(scope:Int): ∀xs:List Ex,sO (eG r scope xs)≤fO xs
 | []=>by rw[eG,sO,fO];exact Nat.le_refl _
 |x::xs=>by
  have h1:=yA r scope x
  have h2:=IA r scope xs
  rw[eG,sO,fO];omega
end
section
variable(p:Int)
def usP(f:Fm):Prop:= ∀(b:T) (D r:List T),IsSl b f.args.length D→be f.args D→f.sz≤100000→ae pE 74 [.vp (.i .i64 f.op:: .i .i64 f.num::b::r),.i .i64 p] []=some (.b (f.us p),[])
theorem HA(op num:Int)(N:List T)(xs:List Fm)(ih: ∀y∈xs,usP p y)(a:T)(O:List T)(W:IsSl a xs.length O)(hx:be xs O)(hn:sO xs≤100000)(r:Bool)(hr:r=usL p xs)(o:Out)(U:o=if r then .ret else .ext 0)(fr:Fr)(lh:aE ah)(sh:List ah)
  (h0:aa fr 0= .vp (.i .i64 op:: .i .i64 num::a::N)) (h1:aa fr 1= .i .i64 p) (D:aa fr 21= .i .i64 (xs.length:Int)) (Gt:aa fr 22= .i .i64 0):
  uL 34 sw fr lh sh o∧
  ((r=true→aa (pz pE 34 sw fr lh sh) 4= .b true)∧jw pE 34 sw fr lh sh=sh):=by
 refine cj (P:=fun X aU Y=>(r=true→aa X 4= .b true)∧Y=sh)
  (cU (fun k st=> ∃(fr:Fr) (K:aE ah),st=⟨fr,K,sh⟩∧r=usL p (xs.drop k)∧aa fr 0= .vp (.i .i64 op:: .i .i64 num::a::N)∧aa fr 1= .i .i64 p∧aa fr 21= .i .i64 (xs.length:Int)∧aa fr 22= .i .i64 (k:Int)) _ xs.length ?_ ?_ 0 _ (Nat.zero_le _) ⟨fr,lh,rfl,hr,h0,h1,D,Gt⟩)
 ·rintro k _ hk ⟨fr,K,rfl,hr,h0,h1,D,Gt⟩
  have F:(k:Int)<xs.length:=zZ
  have V:=Iz xs
  have Z:=AR (List.getElem_mem hk)
  have hw:=ba (k:=k) (gk zZ)
  obtain⟨b,cb,r2,H,eW,te⟩:=ahn W hx k hk
  have I:=ih xs[k] (List.getElem_mem hk) b cb r2 eW te zZ
  rw[List.drop_eq_getElem_cons hk,usL]at hr
  generalize xs[k]=y at*
  cases J:y.us p with
  |true=>
   right
   rw[J]at I
   rw[J,Bool.true_or]at hr
   simp only[qA,seval,sw,h0,h1,D,Gt,F,H,I,asW]
   refine⟨_,_,aaz,rfl,by rw[U,hr];rfl,fun _=> ?_,rfl⟩
   simp only[qA,seval]
  |false=>
   left
   rw[J]at I
   rw[J,Bool.false_or]at hr
   simp only[qA,seval,sw,h0,h1,D,Gt,F,H,I,asW,hw]
   refine⟨_,rfl,_,_,rfl,hr, ?_, ?_, ?_, ?_⟩ <;> simp only[qA,seval,h0,h1,D]
 ·rintro _ ⟨fr,K,rfl,hr,h0,h1,D,Gt⟩
  rw[List.drop_length,usL]at hr
  simp only[qA,seval,sw,D,Gt,Int.lt_irrefl]
  exact⟨_,_,sy,rfl,by rw[U,hr];rfl,fun h=>(by rw[hr]at h;cases h),rfl⟩
theorem aho(f:Fm):usP p f:=by
 induction f using Fm.ind with
 |h f ih=>
  intro b J r F RM K
  rw[av ai2 (by simp[c74]),Fm.us_eq]
  have hs:=f.sz_eq
  by_cases h6:f.op=6
  ·simp only[qA,seval,c74,h6]
  ·have D:=fun fr lh sh h0 h1 H Gt=>HA p f.op f.num r f.args (fun y N=>ih y N) b J F RM zZ _ rfl _ rfl fr lh sh h0 h1 H Gt
   rw[if_neg h6]
   cases I:usL p f.args with
   |true=>
    rw[I]at D
    simp only[qA,seval,c74,h6,F.lenI,D]
   |false=>
    rw[I]at D
    simp only[qA,seval,c74,h6,F.lenI,D]
end
theorem cE(R:List ah)(i j:Nat)(e:ah):aI (bD R i e) j=if j=i then e else aI R j:=mX _ _ _ _ _
theorem cQ: ∀(R:List ah) (i:Nat) (a b:ah),bD (bD R i a) i b=bD R i b
 | [],0,a,b=>rfl
 | [],i+1,a,b=>by
   have:=cQ [] i a b
   grind [bD,mG]
 |x::R,0,a,b=>rfl
 |x::R,i+1,a,b=>by simp_all[re,cQ]
theorem wR: ∀(R:List ah) (e:ah),(bD R R.length e).length=R.length+1
 | [],e=>rfl
 |x::R,e=>by simp_all[List.length_cons,re,wR]
section
variable(lT:T)(m:List (List Nat×Nat))(kn:List (Nat×Int))(R:List ah)
theorem Dl(i:Nat):aI (ee lT m kn R) (i+7)=aI R i:=nr rfl
theorem nD(i:Nat)(e:ah):bD (ee lT m kn R) (i+7) e=ee lT m kn (bD R i e):=nr rfl
theorem Dm:(ee lT m kn R).length=R.length+7:=nr (by unfold ee;rw[List.length_append];show 7+R.length=_;omega)
end
def RlR(u:List Nat×Fm)(c:List T):Prop:= ∃r,c= .s u.1::r∧iN u.2 r
theorem RlR.len(u:List Nat×Fm)(c:List T)(h:RlR u c):c.length=4:=by obtain⟨r,rfl,h⟩:=h;rw[List.length_cons,h.len]
abbrev RL:=List (List Nat×Fm)
def vK(sz:Nat)(l:RL)(cs:List T):Prop:=(if sz=4 then aC RlR l cs else be (l.map Prod.snd) cs)∧ ∀u∈l,u.2.sz≤1000
theorem vK.sz{sz:Nat}{l:RL}{cs:List T}(h:vK sz l cs){u:List Nat×Fm}(r:u.2.sz≤1000): ∀v∈l++ [u],v.2.sz≤1000:=fun v hv=>by
 rcases List.mem_append.1 hv with hv|hv
 ·exact h.2 v hv
 ·grind
theorem vK.app4{l:RL}{cs:List T}(h:vK 4 l cs)(u:List Nat×Fm)(c:List T)(hc:RlR u c)(r:u.2.sz≤1000):vK 4 (l++ [u]) (cs++c):=by
 refine⟨?_,h.sz r⟩
 have h1:=h.1
 rw[if_pos rfl]at h1 ⊢
 exact aC.append h1 (aC.one hc)
theorem vK.app3{l:RL}{cs:List T}(h:vK 3 l cs)(u:List Nat×Fm)(c:List T)(hc:iN u.2 c)(r:u.2.sz≤1000):vK 3 (l++ [u]) (cs++c):=by
 refine⟨?_,h.sz r⟩
 have h1:=h.1
 rw[if_neg zz]at h1 ⊢
 rw[List.map_append]
 exact be.append h1 (be.one hc)
theorem vK.nil(sz:Nat):vK sz [] []:=by
 refine⟨?_,by simp⟩
 split
 ·rfl
 ·exact be.nil
def RwK(R:List ah)(B:Nat)(p:Nat×T×RL):Prop:=(p.2.1= .nilsl∧p.2.2= [])∨ ∃i g n cs,p.2.1= .isl .S (i+7) g 0 n p.1∧aI R i=⟨g,.cells cs 0 false⟩∧i<R.length∧n*p.1=cs.length∧n≤B∧vK p.1 p.2.2 cs
def kyZ:T→Option Nat
 | .isl .S k _ _ _ _=>some k
 |_=>none
theorem kM{k g o n s:Nat}:kyZ (.isl .S k g o n s)=some k:=rfl
def eh(R:List ah)(B:Nat)(r:List (Nat×T×RL)):Prop:=(∀p∈r,RwK R B p)∧ ∀i j:Nat,∀(hi:i<r.length) (D:j<r.length),i≠j→kyZ r[i].2.1=none∨kyZ r[i].2.1≠kyZ r[j].2.1
theorem RwK.mono{R:List ah}{B B':Nat}{p:Nat×T×RL}(h:RwK R B p)(r:B≤B'):RwK R B' p:=by
 rcases h with h|⟨i,g,n,cs,h1,h2,h3,h4,h5,h6⟩
 ·exact .inl h
 ·exact .inr ⟨i,g,n,cs,h1,h2,h3,h4,by omega,h6⟩
theorem eh.mono{R:List ah}{B B':Nat}{r:List (Nat×T×RL)}(h:eh R B r)(D:B≤B'):eh R B' r:=⟨fun p F=>(h.1 p F).mono D,h.2⟩
theorem eh.new{R:List ah}{B:Nat}{r:List (Nat×T×RL)}(h:eh R B r)(K:1≤B)(j:Nat)(V:j<r.length){sz:Nat}(N:r[j].1=sz)(D:List T)(O:D.length=sz)(l:RL)(U:vK sz l D):
  eh (bD R R.length ⟨1,.cells D 0 false⟩) B (r.set j (sz,.isl .S (R.length+7) 1 0 1 sz,l)):=by
 have ZQ: ∀p∈r,RwK (bD R R.length ⟨1,.cells D 0 false⟩) B p∧kyZ p.2.1≠some (R.length+7):=by
  intro p F
  rcases h.1 p F with h1|⟨i,g,n,cs,h1,h2,h3,h4,h5,h6⟩
  ·exact⟨.inl h1,by rw[h1.1];simp[kyZ]⟩
  ·refine⟨.inr ⟨i,g,n,cs,h1, ?_, ?_,h4,h5,h6⟩,by rw[h1,kM];simp;omega⟩
   ·grind [cE]
   ·rw[wR];omega
 refine⟨fun p F=> ?_,fun a b H J I=> ?_⟩
 ·rcases List.mem_or_eq_of_mem_set F with F|rfl
  ·grind
  ·exact .inr ⟨R.length,1,1,D,rfl,by rw[cE,if_pos rfl],by rw[wR];omega,by simp[O],K,U⟩
 ·rw[List.length_set]at H J
  rw[List.getElem_set,List.getElem_set]
  by_cases h1:j=a
  ·grind [kM]
  ·rw[if_neg h1]
   by_cases h2:j=b
   ·rw[if_pos h2]
    right
    rw[kM]
    exact(ZQ r[a] (List.getElem_mem H)).2
   ·rw[if_neg h2];exact h.2 a b H J I
theorem eh.app{R:List ah}{B:Nat}{D:List (Nat×T×RL)}(h:eh R B D)(j:Nat)(I:j<D.length){sz i g n:Nat}{cs:List T}(U:D[j].1=sz)(J:D[j].2.1= .isl .S (i+7) g 0 n sz)(Z:aI R i=⟨g,.cells cs 0 false⟩)(hi:i<R.length)(V:n*sz=cs.length)(hB:n≤B)(F:List T)(W:F.length=sz)(l:RL)(X:vK sz l (cs++F))(H:Nat):
  eh (bD R i ⟨H,.cells (cs++F) 0 false⟩) (B+1) (D.set j (sz,.isl .S (i+7) H 0 (n+1) sz,l)):=by
 have O:(bD R i ⟨H,.cells (cs++F) 0 false⟩).length=R.length:=jD _ _ _ hi
 refine⟨fun p Y=> ?_,fun a b r K N=> ?_⟩
 ·obtain⟨a,r,rfl⟩:=List.getElem_of_mem Y
  rw[List.length_set]at r
  rw[List.getElem_set]
  by_cases h1:j=a
  ·rw[if_pos h1]
   exact .inr ⟨i,H,n+1,cs++F,rfl,by rw[cE,if_pos rfl],by rw[O];exact hi,by rw[List.length_append,W,Nat.add_mul,V,Nat.one_mul],by omega,X⟩
  ·rw[if_neg h1]
   have hd:=h.2 j a I r h1
   rw[J,kM]at hd
   rcases h.1 D[a] (List.getElem_mem r)with q|⟨i',g2,n',J8,q1,q2,q3,q4,q5,q6⟩
   ·exact .inl q
   ·refine .inr ⟨i',g2,n',J8,q1, ?_,by rw[O];exact q3,q4,by omega,q6⟩
    rw[q1,kM]at hd
    rw[cE,if_neg (fun e=>by subst e;rcases hd with hd|hd <;> simp at hd)]
    exact q2
 ·rw[List.length_set]at r K
  rw[List.getElem_set,List.getElem_set]
  by_cases h1:j=a
  ·rw[if_pos h1,if_neg zZ]
   have:=h.2 j b I K zZ
   rw[J,kM]at this
   rw[kM];exact this
  ·rw[if_neg h1]
   by_cases h2:j=b
   ·rw[if_pos h2]
    have:=h.2 a j r I zZ
    rw[J,kM]at this
    rw[kM];exact this
   ·rw[if_neg h2];exact h.2 a b r K N
theorem AS{α β:Type}[DecidableEq α]{s:α}: ∀{m:List (α×β)},s∉m.map Prod.fst→aM m s=none
 | [],_=>rfl
 |p::m,h=>by
  rw[List.map_cons,List.mem_cons,not_or]at h
  rw[aM,if_neg h.1,AS h.2]
theorem BE.fz{z:Zo}{c:List T}(h:BE z c):c.all froz1=true∧c.length=3:=by
 obtain⟨a,r,rfl,h1,_⟩:=h
 exact⟨by simp[h1.froz1,EF,uG],rfl⟩
def Lr(r:List Zo)(m:List (List Nat×List T)):Prop:= ∀p∈m,∃z∈r,z.nm=p.1∧BE z p.2
theorem Nz{l:List (List Nat)}(r:l.Nodup){k:Nat}(hk:k<l.length):l[k]∉l.take k:=by
 intro D
 obtain⟨j,F,e⟩:=List.getElem_of_mem D
 rw[List.length_take]at F
 rw[List.getElem_take]at e
 exact List.pairwise_iff_getElem.1 r j k zZ hk zZ e
theorem nwz(l:List Zo)(Y:(l.map Zo.nm).Nodup)(a:T)(cc:List T)(ha:IsSl a l.length cc)(hc:aC BE l cc)(hlen:l.length≤100)(V W yY Mw:ah)(fr:Fr)(lh:aE ah)(sh:List ah)
  (I:aa fr 9= .mp .L 38 1) (r:aa fr 40=a) (WZ:aa fr 41= .i .i64 (l.length:Int)) (D:aa fr 42= .i .i64 0) (J:ab lh 2=V) (K:ab lh 3=W) (N:ab lh 35=yY) (O:ab lh 37=Mw) (IB:ab lh 38=⟨1,.map [] [] false⟩):
  uL 232 jf fr lh sh (.ext 0)∧
  (ab (iu pE 232 jf fr lh sh) 2=V∧ab (iu pE 232 jf fr lh sh) 3=W∧ab (iu pE 232 jf fr lh sh) 35=yY∧ab (iu pE 232 jf fr lh sh) 37=Mw∧(∃m,ab (iu pE 232 jf fr lh sh) 38=⟨1,.map (m.map fun p=>sK p.1) (m.map fun p=>T.agg p.2) false⟩∧Lr l m∧m.map Prod.fst=l.map Zo.nm)∧jw pE 232 jf fr lh sh=sh):=by
 refine cj (P:=fun cK aU aX=>ab aU 2=V∧ab aU 3=W∧ab aU 35=yY∧ab aU 37=Mw∧(∃m,ab aU 38=⟨1,.map (m.map fun p=>sK p.1) (m.map fun p=>T.agg p.2) false⟩∧Lr l m∧m.map Prod.fst=l.map Zo.nm)∧aX=sh)
  (cU (fun k st=> ∃(fr:Fr) (F:aE ah) (m:List (List Nat×List T)),st=⟨fr,F,sh⟩∧m.map Prod.fst=(l.map Zo.nm).take k∧Lr l m∧aa fr 9= .mp .L 38 1∧aa fr 40=a∧aa fr 41= .i .i64 (l.length:Int)∧aa fr 42= .i .i64 (k:Int)∧ab F 2=V∧ab F 3=W∧ab F 35=yY∧ab F 37=Mw∧ab F 38=⟨1,.map (m.map fun p=>sK p.1) (m.map fun p=>T.agg p.2) false⟩) _ l.length ?_ ?_ 0 _ (Nat.zero_le _) ⟨fr,lh,[],rfl,by simp,(fun p hp=>by cases hp),I,r,WZ,D,J,K,N,O,IB⟩)
 ·rintro k _ hk ⟨fr,F,m,rfl,X,H,I,r,WZ,D,J,K,N,O,IB⟩
  left
  have Z:(k:Int)<l.length:=zZ
  have hw:=aG (k:=k) zZ
  obtain⟨U,sc,rr,hia,rU,Gq⟩:=IC ha hc k hk
  have W0:k<(l.map Zo.nm).length:=by simpa using hk
  have yc:aM m l[k].nm=none:=AS (by rw[X];have:=Nz Y W0;rwa [List.getElem_map]at this)
  have iI:lq (.one .str) (.s l[k].nm) (.agg [.s l[k].nm,.i .i64 l[k].o,U]) (m.map fun p=>sK p.1) (m.map fun p=>T.agg p.2)=_:=uK (kT:=sK) (vT:=T.agg) EZ m l[k].nm [.s l[k].nm,.i .i64 l[k].o,U] yc
  have hzr: ∃z∈l,z.nm=l[k].nm∧BE z [.s l[k].nm,.i .i64 l[k].o,U]:=⟨l[k],List.getElem_mem hk,rfl,U,sc,rfl,rU,Gq⟩
  have W1:(l.map Zo.nm).take (k+1)=(l.map Zo.nm).take k++ [l[k].nm]:=by rw[List.take_succ_eq_append_getElem W0,List.getElem_map]
  rw[W1]
  generalize l[k]=z at*
  simp only[qA,seval,jf,I,r,WZ,D,IB,Z,hia,hw,oL,xM,iI,rU.froz1]
  refine⟨_,rfl,_,_,m++ [(z.nm,[.s z.nm,.i .i64 z.o,U])],rfl, ?_, ?_, ?_, ?_, ?_, ?_, ?_, ?_, ?_, ?_, ?_⟩
  ·rw[List.map_append,X];rfl
  ·intro p hp
   rcases List.mem_append.1 hp with hp|hp
   ·exact H p hp
   ·rw[List.mem_singleton.1 hp];exact hzr
  all_goals (simp only[qA,seval,I,r,WZ,J,K,N,O])
 ·rintro _ ⟨fr,F,m,rfl,X,H,I,r,WZ,D,J,K,N,O,IB⟩
  simp only[qA,seval,jf,WZ,D,Int.lt_irrefl]
  exact⟨_,_,sy,rfl,rfl,J,K,N,O,⟨m,IB,H,by rw[X,List.take_of_length_le zP]⟩,rfl⟩
def fg(r D F:T)(c:Ct)(H I J K N O:T)(U:List T):List T:=r::D::F::(aV c H I J K N O++ .mp .L 35 1::U)
theorem AU{α β:Type}[DecidableEq α]{s:α}{v:β}: ∀{m:List (α×β)},aM m s=some v→(s,v)∈m
 | [],h=>by cases h
 |p::m,h=>by
  rw[aM]at h
  split at h
  ·rename_i e;injection h with h;subst h;rw[e];exact List.mem_cons_self ..
  ·exact List.mem_cons_of_mem _ (AU h)
theorem Dn{α β:Type}[DecidableEq α]{s:α}: ∀{m:List (α×β)},s∈m.map Prod.fst→ ∃v,aM m s=some v
 | [],h=>by cases h
 |p::m,h=>by
  rw[aM]
  split
  ·exact⟨_,rfl⟩
  ·rename_i e
   rw[List.map_cons,List.mem_cons]at h
   rcases h with h|h
   ·exact absurd h e
   ·exact Dn h
def W2(r:List Zo)(D:List Ap)(q:List (List Nat×List T)):Prop:= ∀p∈q,∃u∈D,u.cd=p.1∧ ∃z∈r,z.nm=u.zn∧BE z p.2
theorem adk{r:List Zo}{m:List (List Nat×List T)}(F:Lr r m)(H:m.map Prod.fst=r.map Zo.nm)(s:List Nat)(hs:s∈r.map Zo.nm): ∃v,(∃z∈r,z.nm=s∧BE z v)∧iq (.one .str) (m.map fun p=>sK p.1) (m.map fun p=>T.agg p.2) (.s s) (.agg [.s [],.i .i64 0,.nilsl]) false=some (.agg v)∧v.all froz1=true∧v.length=3:=by
 have D:=Wz (kT:=sK) (vT:=T.agg) EZ (fun _=>rfl) m s (.agg [.s [],.i .i64 0,.nilsl])
 obtain⟨v,h⟩:=Dn (by rw[H];exact hs)
 rw[h]at D
 obtain⟨z,h1,h2,h3⟩:=F _ (AU h)
 exact⟨v,⟨z,h1,h2,h3⟩,D,h3.fz⟩
theorem nwa(l:List Ap)(hnd:(l.map Ap.cd).Nodup)(a:T)(cc:List T)(ha:IsSl a l.length cc)(hc:aC Ls l cc)(hlen:l.length≤100)(F:List Zo)(m:List (List Nat×List T))(I:Lr F m∧m.map Prod.fst=F.map Zo.nm)(hzn: ∀u∈l,u.zn∈F.map Zo.nm)(V W X:T)(c:Ct)(Y Z a9 aw aA az:T)(vs:List T)(c2 c3:ah)(fr:Fr)(lh:aE ah)(sh:List ah)
  (J:aa fr 8= .ptr .L 37 1 0) (K:aa fr 9= .mp .L 38 1) (RN:aa fr 52=a) (Dp:aa fr 53= .i .i64 (l.length:Int)) (Gu:aa fr 54= .i .i64 0) (N:ab lh 2=c2) (O:ab lh 3=c3) (U:ab lh 35=⟨1,.map [] [] false⟩) (r:ab lh 37=⟨1,.cells (fg V W X c Y Z a9 aw aA az vs) 0 true⟩) (IB:ab lh 38=⟨1,.map (m.map fun p=>sK p.1) (m.map fun p=>T.agg p.2) false⟩):
  uL 232 jV fr lh sh (.ext 2)∧
  (ab (iu pE 232 jV fr lh sh) 2=c2∧ab (iu pE 232 jV fr lh sh) 3=c3∧ab (iu pE 232 jV fr lh sh) 37=⟨1,.cells (fg V W X c Y Z a9 aw aA az vs) 0 true⟩∧(∃q,ab (iu pE 232 jV fr lh sh) 35=⟨1,.map (q.map fun p=>sK p.1) (q.map fun p=>T.agg p.2) false⟩∧W2 F l q∧q.map Prod.fst=l.map Ap.cd)∧jw pE 232 jV fr lh sh=sh):=by
 refine cj (P:=fun cK aU aX=>ab aU 2=c2∧ab aU 3=c3∧ab aU 37=⟨1,.cells (fg V W X c Y Z a9 aw aA az vs) 0 true⟩∧(∃q,ab aU 35=⟨1,.map (q.map fun p=>sK p.1) (q.map fun p=>T.agg p.2) false⟩∧W2 F l q∧q.map Prod.fst=l.map Ap.cd)∧aX=sh)
  (cU (fun k st=> ∃(fr:Fr) (D:aE ah) (q:List (List Nat×List T)),st=⟨fr,D,sh⟩∧q.map Prod.fst=(l.map Ap.cd).take k∧W2 F l q∧aa fr 8= .ptr .L 37 1 0∧aa fr 9= .mp .L 38 1∧aa fr 52=a∧aa fr 53= .i .i64 (l.length:Int)∧aa fr 54= .i .i64 (k:Int)∧ab D 2=c2∧ab D 3=c3∧ab D 37=⟨1,.cells (fg V W X c Y Z a9 aw aA az vs) 0 true⟩∧ab D 38=⟨1,.map (m.map fun p=>sK p.1) (m.map fun p=>T.agg p.2) false⟩∧ab D 35=⟨1,.map (q.map fun p=>sK p.1) (q.map fun p=>T.agg p.2) false⟩) _ l.length ?_ ?_ 0 _ (Nat.zero_le _) ⟨fr,lh,[],rfl,by simp,(fun p hp=>by cases hp),J,K,RN,Dp,Gu,N,O,r,IB,U⟩)
 ·rintro k _ hk ⟨fr,D,q,rfl,hq,H,J,K,RN,Dp,Gu,N,O,r,IB,U⟩
  left
  have hk':(k:Int)<l.length:=zZ
  have hw:=aG (k:=k) zZ
  obtain⟨rr,hia⟩:=ID ha hc k hk
  have W0:k<(l.map Ap.cd).length:=by simpa using hk
  have yc:aM q l[k].cd=none:=AS (by rw[hq];have:=Nz hnd W0;rwa [List.getElem_map]at this)
  obtain⟨v,hzv,eZ,wD,RI⟩:=adk I.1 I.2 l[k].zn (hzn _ (List.getElem_mem hk))
  have hqv: ∃u∈l,u.cd=l[k].cd∧ ∃z∈F,z.nm=u.zn∧BE z v:=⟨l[k],List.getElem_mem hk,rfl,hzv⟩
  have iI:lq (.one .str) (.s l[k].cd) (.agg v) (q.map fun p=>sK p.1) (q.map fun p=>T.agg p.2)=_:=uK (kT:=sK) (vT:=T.agg) EZ q l[k].cd v yc
  have W1:(l.map Ap.cd).take (k+1)=(l.map Ap.cd).take k++ [l[k].cd]:=by rw[List.take_succ_eq_append_getElem W0,List.getElem_map]
  rw[W1]
  generalize l[k]=z at*
  unfold fg aV at r ⊢
  simp only[List.cons_append,List.nil_append]at r ⊢
  simp only[qA,seval,bj,aH,jV,J,K,RN,Dp,Gu,U,r,IB,hk',hia,hw,bO,eZ,wD,oL,xM,iI]
  refine⟨_,rfl,_,_,q++ [(z.cd,v)],rfl, ?_, ?_, ?_, ?_, ?_, ?_, ?_, ?_, ?_, ?_, ?_, ?_⟩
  ·rw[List.map_append,hq];rfl
  ·intro p hp
   rcases List.mem_append.1 hp with hp|hp
   ·exact H p hp
   ·rw[List.mem_singleton.1 hp];exact hqv
  all_goals (simp only[qA,seval,J,K,RN,Dp,N,O,r,IB])
 ·rintro _ ⟨fr,D,q,rfl,hq,H,J,K,RN,Dp,Gu,N,O,r,IB,U⟩
  simp only[qA,seval,jV,Dp,Gu,Int.lt_irrefl]
  exact⟨_,_,sy,rfl,rfl,N,O,r,⟨q,U,H,by rw[hq,List.take_of_length_le zP]⟩,rfl⟩
theorem W3{n:Nat}(h:n≤1000):(n+1)*56≤roomy:=by unfold roomy;omega
theorem akY:56≤roomy:=by unfold roomy;omega
def fD(r D F H I J cr K:T):List T:= [.nilsl,r,D,F,.nilsl,H,I,J,cr,K]
def gw(r D F H I J cr:T)(K N O U V W X:RL):List (Nat×T×RL):= [(4,r,K),(4,D,N),(4,F,O),(3,H,U),(3,I,V),(3,J,W),(3,cr,X)]
def vL(c:Ct)(j:Int)(k:Nat):RL:=((c.ru.take k).filter fun u=>u.sc==j).map fun u=>(u.nm,comp (fm c.cs) u.sc u.x)
def tf(c:Ct)(j:Int)(k:Nat):RL:=((c.co.take k).filter fun u=>u.sc==j).map fun u=>([],comp (fm c.cs) u.sc u.x)
def RO(c:Ct)(k:Nat):RL:=(c.cr.take k).map fun u=>([],comp (fm c.cs) 1 u)
theorem AV(c:Ct)(j:Int){k:Nat}(hk:k<c.ru.length):vL c j (k+1)=if c.ru[k].sc=j then vL c j k++ [(c.ru[k].nm,comp (fm c.cs) c.ru[k].sc c.ru[k].x)]else vL c j k:=by
 grind [vL,List.take_succ_eq_append_getElem]
theorem uS(c:Ct)(j:Int){k:Nat}(hk:k<c.co.length):tf c j (k+1)=if c.co[k].sc=j then tf c j k++ [([],comp (fm c.cs) c.co[k].sc c.co[k].x)]else tf c j k:=by
 grind [tf,List.take_succ_eq_append_getElem]
theorem W4(c:Ct){k:Nat}(hk:k<c.cr.length):RO c (k+1)=RO c k++ [([],comp (fm c.cs) 1 c.cr[k])]:=by
 grind [RO,List.take_succ_eq_append_getElem]
theorem aCd:eh [] 0 (gw .nilsl .nilsl .nilsl .nilsl .nilsl .nilsl .nilsl [] [] [] [] [] [] []):=by
 have r: ∀p∈gw .nilsl .nilsl .nilsl .nilsl .nilsl .nilsl .nilsl [] [] [] [] [] [] [],p.2=(.nilsl,[]):=by
  simp_all[gw,List.mem_cons,List.not_mem_nil]
 exact⟨fun p D=> .inl (by rw[r p D];exact⟨rfl,rfl⟩),fun i j hi F _=> .inl (by rw[r _ (List.getElem_mem hi)];rfl)⟩
def IE(l:Cs)(r:Int)(x:Ex):Prop:=(r=1∨r=2∨r=3)∧bJ x=0∧ ∃k,x.ty (E0 l) r=(k,0)
theorem nwr(c:Ct)(U a8:T)(c7 c8:List T)(i7:IsSl U c.cs.length c7)(j7:cW c.cs c7)(i8:IsSl a8 c.ru.length c8)(j8:aC RP c.ru c8)(hlen:c.ru.length≤40)(kN: ∀u∈c.ru,IE c.cs u.sc u.x)(zT aT fT a9 aw aA az nb:T)(c2 c3 yY:ah)(AW:List (Nat×Int))(wS:iT c.cs AW)(fr:Fr)(lh:aE ah)(sh:List ah)(fB:sh=ee U (bA c.cs c.cs.length) AW [])
  (I:aa fr 8= .ptr .L 37 1 0) (J:aa fr 14= .ptr .S 2 1 0) (Dq:aa fr 73=a8) (BF:aa fr 74= .i .i64 (c.ru.length:Int)) (NA:aa fr 75= .i .i64 0) (X:ab lh 2=c2) (Y:ab lh 3=c3) (Z:ab lh 35=yY) (O:ab lh 37=⟨1,.cells (fg zT aT fT c U a8 a9 aw aA az (fD .nilsl .nilsl .nilsl .nilsl .nilsl .nilsl .nilsl nb)) 0 true⟩):
  uL 232 fE fr lh sh (.ext 4)∧
  (ab (iu pE 232 fE fr lh sh) 2=c2∧ab (iu pE 232 fE fr lh sh) 3=c3∧ab (iu pE 232 fE fr lh sh) 35=yY∧ ∃(R:List ah) (kn:List (Nat×Int)) (D F H:T),jw pE 232 fE fr lh sh=ee U (bA c.cs c.cs.length) kn R∧iT c.cs kn∧eh R 40 (gw D F H .nilsl .nilsl .nilsl .nilsl (vL c 1 c.ru.length) (vL c 2 c.ru.length) (vL c 3 c.ru.length) [] [] [] [])∧ab (iu pE 232 fE fr lh sh) 37=⟨1,.cells (fg zT aT fT c U a8 a9 aw aA az (fD D F H .nilsl .nilsl .nilsl .nilsl nb)) 0 true⟩):=by
 refine cj (P:=fun cK aU aX=>ab aU 2=c2∧ab aU 3=c3∧ab aU 35=yY∧ ∃(R:List ah) (kn:List (Nat×Int)) (D F H:T),aX=ee U (bA c.cs c.cs.length) kn R∧iT c.cs kn∧eh R 40 (gw D F H .nilsl .nilsl .nilsl .nilsl (vL c 1 c.ru.length) (vL c 2 c.ru.length) (vL c 3 c.ru.length) [] [] [] [])∧ab aU 37=⟨1,.cells (fg zT aT fT c U a8 a9 aw aA az (fD D F H .nilsl .nilsl .nilsl .nilsl nb)) 0 true⟩)
  (cU (fun k st=> ∃(fr:Fr) (dI:aE ah) (R:List ah) (kn:List (Nat×Int)) (D F H:T),st=⟨fr,dI,ee U (bA c.cs c.cs.length) kn R⟩∧iT c.cs kn∧eh R k (gw D F H .nilsl .nilsl .nilsl .nilsl (vL c 1 k) (vL c 2 k) (vL c 3 k) [] [] [] [])∧aa fr 8= .ptr .L 37 1 0∧aa fr 14= .ptr .S 2 1 0∧aa fr 73=a8∧aa fr 74= .i .i64 (c.ru.length:Int)∧aa fr 75= .i .i64 (k:Int)∧ab dI 2=c2∧ab dI 3=c3∧ab dI 35=yY∧ab dI 37=⟨1,.cells (fg zT aT fT c U a8 a9 aw aA az (fD D F H .nilsl .nilsl .nilsl .nilsl nb)) 0 true⟩) _ c.ru.length ?_ ?_ 0 _ (Nat.zero_le _) ⟨fr,lh,[],AW,.nilsl,.nilsl,.nilsl,by rw[fB],wS,aCd,I,J,Dq,BF,NA,X,Y,Z,O⟩)
 ·rintro k _ hk ⟨fr,dI,R,kn,D,F,H,rfl,iY,V,I,J,Dq,BF,NA,X,Y,Z,O⟩
  left
  have N:(k:Int)<c.ru.length:=zZ
  have hw:=aG (k:=k) zZ
  obtain⟨b,cb,rr,K,eW,hb⟩:=xP i8 j8 k hk
  obtain⟨eY,hval,t,hty⟩:=kN c.ru[k] (List.getElem_mem hk)
  have AX:=(ib hval).1
  obtain⟨cf,cJ,aD,wJ,iU,_⟩:=E1 c.cs U R c.cs.length (Nat.le_refl _) (E2 c.cs U R c7 i7 j7) c.ru[k].sc (.inr eY) c.ru[k].x t kn _ iY hb AX (gz hval) (by rw[wU];exact hty)
  have hsz:=yA (fm c.cs) c.ru[k].sc c.ru[k].x
  have s1:=AV c 1 hk
  have s2:=AV c 2 hk
  have s3:=AV c 3 hk
  generalize c.ru[k]=u at*
  generalize comp (fm c.cs) u.sc u.x=y at*
  obtain⟨r,fc,rfl,AG,WJ⟩:=wJ.cells
  have Gr:RlR (u.nm,y) [.s u.nm,.i .i64 y.op,.i .i64 y.num,r]:=⟨_,rfl,wJ⟩
  have uT:vK 4 [(u.nm,y)] [.s u.nm,.i .i64 y.op,.i .i64 y.num,r]:=by
   have:=(vK.nil 4).app4 (u.nm,y) _ Gr (by show y.sz≤1000;omega)
   grind
  have Kc:=akY
  have aIq:k≤40:=zZ
  unfold fg aV fD at O ⊢
  simp only[List.cons_append,List.nil_append]at O ⊢
  rcases eY with eY|eY|eY <;> rw[eY]at K aD
  ·have W:=V.1 (4,D,vL c 1 k) (by simp[gw])
   rw[if_pos eY]at s1
   rw[if_neg (by rw[eY];decide)]at s2 s3
   rcases W with⟨hnil,yo⟩|⟨i,g,n,cs,hv,hE,hi,hn,hB,hfz⟩
   ·simp only at hnil yo
    subst hnil
    rw[yo,List.nil_append]at s1
    have nE:=(V.mono (Nat.le_succ k)).new zZ 0 (by simp[gw]) (sz:=4) rfl [.s u.nm,.i .i64 y.op,.i .i64 y.num,r] rfl _ uT
    simp only[qA,seval,eI,repl,bj,aH,fC,dn,fE,I,J,Dq,BF,NA,O,N,K,hw,aD,lQ,mF,eW.kept1,AG.froz1,cM,cV,aY,cP,bN,dc,nD,Dm,Kc]
    refine⟨_,rfl,_,_,bD R R.length ⟨1,.cells [.s u.nm,.i .i64 y.op,.i .i64 y.num,r] 0 false⟩,cJ,.isl .S (R.length+7) 1 0 1 4,F,H,rfl,iU,(by rw[s1,s2,s3];exact nE), ?_, ?_, ?_, ?_, ?_, ?_, ?_, ?_, ?_⟩
    all_goals (simp only[qA,seval,I,J,Dq,BF,X,Y,Z])
   ·simp only at hv
    subst hv
    have oR:=V.app 0 (by simp[gw]) (sz:=4) rfl rfl hE hi hn hB [.s u.nm,.i .i64 y.op,.i .i64 y.num,r] rfl _ (hfz.app4 (u.nm,y) [.s u.nm,.i .i64 y.op,.i .i64 y.num,r] Gr (by show y.sz≤1000;omega)) (g+1)
    have rI:(n+1)*56≤roomy:=W3 zZ
    simp only[qA,seval,eI,repl,bj,aH,fC,dn,fE,I,J,Dq,BF,NA,O,N,K,hw,aD,lQ,mF,eW.kept1,AG.froz1,cM,cV,aY,dw,bN,dU,cz,Dl,nD,Dm,hE,hn,rI]
    refine⟨_,rfl,_,_,bD R i ⟨g+1,.cells (cs++ [.s u.nm,.i .i64 y.op,.i .i64 y.num,r]) 0 false⟩,cJ,.isl .S (i+7) (g+1) 0 (n+1) 4,F,H,rfl,iU,(by rw[s1,s2,s3];exact oR), ?_, ?_, ?_, ?_, ?_, ?_, ?_, ?_, ?_⟩
    all_goals (simp only[qA,seval,I,J,Dq,BF,X,Y,Z])
  ·have W:=V.1 (4,F,vL c 2 k) (by simp[gw])
   rw[if_pos eY]at s2
   rw[if_neg (by rw[eY];decide)]at s1 s3
   rcases W with⟨hnil,yo⟩|⟨i,g,n,cs,hv,hE,hi,hn,hB,hfz⟩
   ·simp only at hnil yo
    subst hnil
    rw[yo,List.nil_append]at s2
    have nE:=(V.mono (Nat.le_succ k)).new zZ 1 (by simp[gw]) (sz:=4) rfl [.s u.nm,.i .i64 y.op,.i .i64 y.num,r] rfl _ uT
    simp only[qA,seval,eI,repl,bj,aH,fC,dn,fE,I,J,Dq,BF,NA,O,N,K,hw,aD,lQ,mF,eW.kept1,AG.froz1,cM,cV,aY,cP,bN,dc,nD,Dm,Kc]
    refine⟨_,rfl,_,_,bD R R.length ⟨1,.cells [.s u.nm,.i .i64 y.op,.i .i64 y.num,r] 0 false⟩,cJ,D,.isl .S (R.length+7) 1 0 1 4,H,rfl,iU,(by rw[s1,s2,s3];exact nE), ?_, ?_, ?_, ?_, ?_, ?_, ?_, ?_, ?_⟩
    all_goals (simp only[qA,seval,I,J,Dq,BF,X,Y,Z])
   ·simp only at hv
    subst hv
    have oR:=V.app 1 (by simp[gw]) (sz:=4) rfl rfl hE hi hn hB [.s u.nm,.i .i64 y.op,.i .i64 y.num,r] rfl _ (hfz.app4 (u.nm,y) [.s u.nm,.i .i64 y.op,.i .i64 y.num,r] Gr (by show y.sz≤1000;omega)) (g+1)
    have rI:(n+1)*56≤roomy:=W3 zZ
    simp only[qA,seval,eI,repl,bj,aH,fC,dn,fE,I,J,Dq,BF,NA,O,N,K,hw,aD,lQ,mF,eW.kept1,AG.froz1,cM,cV,aY,dw,bN,dU,cz,Dl,nD,Dm,hE,hn,rI]
    refine⟨_,rfl,_,_,bD R i ⟨g+1,.cells (cs++ [.s u.nm,.i .i64 y.op,.i .i64 y.num,r]) 0 false⟩,cJ,D,.isl .S (i+7) (g+1) 0 (n+1) 4,H,rfl,iU,(by rw[s1,s2,s3];exact oR), ?_, ?_, ?_, ?_, ?_, ?_, ?_, ?_, ?_⟩
    all_goals (simp only[qA,seval,I,J,Dq,BF,X,Y,Z])
  ·have W:=V.1 (4,H,vL c 3 k) (by simp[gw])
   rw[if_pos eY]at s3
   rw[if_neg (by rw[eY];decide)]at s1 s2
   rcases W with⟨hnil,yo⟩|⟨i,g,n,cs,hv,hE,hi,hn,hB,hfz⟩
   ·simp only at hnil yo
    subst hnil
    rw[yo,List.nil_append]at s3
    have nE:=(V.mono (Nat.le_succ k)).new zZ 2 (by simp[gw]) (sz:=4) rfl [.s u.nm,.i .i64 y.op,.i .i64 y.num,r] rfl _ uT
    simp only[qA,seval,eI,repl,bj,aH,fC,dn,fE,I,J,Dq,BF,NA,O,N,K,hw,aD,lQ,mF,eW.kept1,AG.froz1,cM,cV,aY,cP,bN,dc,nD,Dm,Kc]
    refine⟨_,rfl,_,_,bD R R.length ⟨1,.cells [.s u.nm,.i .i64 y.op,.i .i64 y.num,r] 0 false⟩,cJ,D,F,.isl .S (R.length+7) 1 0 1 4,rfl,iU,(by rw[s1,s2,s3];exact nE), ?_, ?_, ?_, ?_, ?_, ?_, ?_, ?_, ?_⟩
    all_goals (simp only[qA,seval,I,J,Dq,BF,X,Y,Z])
   ·simp only at hv
    subst hv
    have oR:=V.app 2 (by simp[gw]) (sz:=4) rfl rfl hE hi hn hB [.s u.nm,.i .i64 y.op,.i .i64 y.num,r] rfl _ (hfz.app4 (u.nm,y) [.s u.nm,.i .i64 y.op,.i .i64 y.num,r] Gr (by show y.sz≤1000;omega)) (g+1)
    have rI:(n+1)*56≤roomy:=W3 zZ
    simp only[qA,seval,eI,repl,bj,aH,fC,dn,fE,I,J,Dq,BF,NA,O,N,K,hw,aD,lQ,mF,eW.kept1,AG.froz1,cM,cV,aY,dw,bN,dU,cz,Dl,nD,Dm,hE,hn,rI]
    refine⟨_,rfl,_,_,bD R i ⟨g+1,.cells (cs++ [.s u.nm,.i .i64 y.op,.i .i64 y.num,r]) 0 false⟩,cJ,D,F,.isl .S (i+7) (g+1) 0 (n+1) 4,rfl,iU,(by rw[s1,s2,s3];exact oR), ?_, ?_, ?_, ?_, ?_, ?_, ?_, ?_, ?_⟩
    all_goals (simp only[qA,seval,I,J,Dq,BF,X,Y,Z])
 ·rintro _ ⟨fr,dI,R,kn,D,F,H,rfl,iY,V,I,J,Dq,BF,NA,X,Y,Z,O⟩
  simp only[qA,seval,fE,BF,NA,Int.lt_irrefl]
  exact⟨_,_,sy,rfl,rfl,X,Y,Z,R,kn,D,F,H,rfl,iY,V.mono zZ,O⟩
theorem E3:40≤roomy:=by unfold roomy;omega
theorem yB{n:Nat}(h:n≤1000):(n+1)*40≤roomy:=by unfold roomy;omega
theorem oS{a b c x y z:T}:splice [a,b,c] 0 [x,y,z]= [x,y,z]:=rfl
theorem fQ{a b c x y z:T}: ∀(cs:List T),splice (cs++ [a,b,c]) cs.length [x,y,z]=cs++ [x,y,z]
 | []=>rfl
 |u::cs=>by rw[List.cons_append,List.cons_append,List.length_cons,splice,fQ cs]
theorem oU{cs:List T}{a b c:T}:(cs++ [a,b,c]).length=cs.length+3:=zP
theorem awF(c:Ct)(r U V W X Y Z aT fT nb r1 r2 r3 c2 c3:T)(m:List (List Nat×Nat))(kn cJ:List (Nat×Int))(R:List ah)(x:Ex)(b:T)(y:Fm)(F:T)(sP:Nat)(fr:Fr)(lh:aE ah)
  (RQ:froz1 b=true) (yC:kept1 b=true) (D:froz1 F=true) (Ao:kept1 F=true)
  (aD:ae pE 73 [.ptr .S 2 1 0,.i .i64 1,.agg [.i .i64 x.op,.i .i64 x.num,.s x.name,b]] (ee r m kn R)=some (.agg [.i .i64 y.op,.i .i64 y.num,F],ee r m cJ R))
  (h8:aa fr 8= .ptr .L 37 1 0) (di:aa fr 14= .ptr .S 2 1 0) (il:aa fr 18= .ptr .L 18 sP 0) (yD:ab lh 18=⟨sP,.cells [.i .i64 1,.i .i64 x.op,.i .i64 x.num,.s x.name,b] 0 true⟩) (H:ab lh 37=⟨1,.cells (fg Z aT fT c r U V W X Y (fD r1 r2 r3 (.nilsl) c2 c3 .nilsl nb)) 0 true⟩) (I:ak) (J:I=mh bC∨I=mi bC):
  ∃f1 K,DC pE 232 I ⟨fr,lh,ee r m kn R⟩=some (.nrm,⟨f1,K,ee r m cJ (bD R R.length ⟨1,.cells [.i .i64 y.op,.i .i64 y.num,F] 0 false⟩)⟩)∧(∀k,(bX bC).contains k=false→k≠37→ab K k=ab lh k)∧ab K 37=⟨1,.cells (fg Z aT fT c r U V W X Y (fD r1 r2 r3 (.isl .S (R.length+7) 1 0 1 3) c2 c3 .nilsl nb)) 0 true⟩:=by
 have Kc:=E3
 unfold fg aV fD at H ⊢
 simp only[List.cons_append,List.nil_append]at H ⊢
 rcases J with rfl|rfl
 ·
  simp only[qA,seval,eI,repl,bj,aH,fC,eS,dn,bC,mh,h8,di,il,yD,H,aD,lQ,mF,yC,D,cM,cV,aY,cP,bN,dc,Dl,nD,Dm,Kc,cE,cQ,oS,Nat.lt_succ_self]
  refine⟨_,_,rfl, ?_, ?_⟩
  ·intro k hk N
   have O:k≠111:=by rintro rfl;exact absurd hk zz
   repeat (first|rw[bq _ _ N]|rw[bq _ _ O])
  ·simp only[qA,seval]
 ·
  simp only[qA,seval,eI,repl,bj,aH,fC,eS,dn,bC,mi,h8,di,il,yD,H,aD,lQ,mF,yC,D,cM,cV,aY,cP,bN,dc,Dl,nD,Dm,Kc,cE,cQ,oS,Nat.lt_succ_self]
  refine⟨_,_,rfl, ?_, ?_⟩
  ·intro k hk N
   have O:k≠111:=by rintro rfl;exact absurd hk zz
   repeat (first|rw[bq _ _ N]|rw[bq _ _ O])
  ·simp only[qA,seval]
theorem awG(c:Ct)(r U V W X Y Z aT fT nb r1 r2 r3 c2 c3:T)(m:List (List Nat×Nat))(kn cJ:List (Nat×Int))(R:List ah)(x:Ex)(b:T)(y:Fm)(F:T)(sP:Nat)(i g n:Nat)(cs:List T)(hE:aI R i=⟨g,.cells cs 0 false⟩)(hn:n*3=cs.length)(B4:n≤1000)(fr:Fr)(lh:aE ah)
  (RQ:froz1 b=true) (yC:kept1 b=true) (D:froz1 F=true) (Ao:kept1 F=true)
  (aD:ae pE 73 [.ptr .S 2 1 0,.i .i64 1,.agg [.i .i64 x.op,.i .i64 x.num,.s x.name,b]] (ee r m kn R)=some (.agg [.i .i64 y.op,.i .i64 y.num,F],ee r m cJ R))
  (h8:aa fr 8= .ptr .L 37 1 0) (di:aa fr 14= .ptr .S 2 1 0) (il:aa fr 18= .ptr .L 18 sP 0) (yD:ab lh 18=⟨sP,.cells [.i .i64 1,.i .i64 x.op,.i .i64 x.num,.s x.name,b] 0 true⟩) (H:ab lh 37=⟨1,.cells (fg Z aT fT c r U V W X Y (fD r1 r2 r3 (.isl .S (i+7) g 0 n 3) c2 c3 .nilsl nb)) 0 true⟩) (I:ak) (J:I=mh bC∨I=mi bC):
  ∃f1 K,DC pE 232 I ⟨fr,lh,ee r m kn R⟩=some (.nrm,⟨f1,K,ee r m cJ (bD R i ⟨g+1,.cells (cs++ [.i .i64 y.op,.i .i64 y.num,F]) 0 false⟩)⟩)∧(∀k,(bX bC).contains k=false→k≠37→ab K k=ab lh k)∧ab K 37=⟨1,.cells (fg Z aT fT c r U V W X Y (fD r1 r2 r3 (.isl .S (i+7) (g+1) 0 (n+1) 3) c2 c3 .nilsl nb)) 0 true⟩:=by
 have rI:(n+1)*40≤roomy:=yB B4
 unfold fg aV fD at H ⊢
 simp only[List.cons_append,List.nil_append]at H ⊢
 rcases J with rfl|rfl
 ·
  simp only[qA,seval,eI,repl,bj,aH,fC,eS,dn,bC,mh,h8,di,il,yD,H,aD,lQ,mF,yC,D,cM,cV,aY,dw,bN,dU,cz,Dl,nD,Dm,cE,cQ,fQ,oU,Nat.lt_succ_self,hE,hn,rI]
  refine⟨_,_,rfl, ?_, ?_⟩
  ·intro k hk N
   have O:k≠111:=by rintro rfl;exact absurd hk zz
   repeat (first|rw[bq _ _ N]|rw[bq _ _ O])
  ·simp only[qA,seval]
 ·
  simp only[qA,seval,eI,repl,bj,aH,fC,eS,dn,bC,mi,h8,di,il,yD,H,aD,lQ,mF,yC,D,cM,cV,aY,dw,bN,dU,cz,Dl,nD,Dm,cE,cQ,fQ,oU,Nat.lt_succ_self,hE,hn,rI]
  refine⟨_,_,rfl, ?_, ?_⟩
  ·intro k hk N
   have O:k≠111:=by rintro rfl;exact absurd hk zz
   repeat (first|rw[bq _ _ N]|rw[bq _ _ O])
  ·simp only[qA,seval]
theorem awH(c:Ct)(r U V W X Y Z aT fT nb r1 r2 r3 c1 c3:T)(m:List (List Nat×Nat))(kn cJ:List (Nat×Int))(R:List ah)(x:Ex)(b:T)(y:Fm)(F:T)(sP:Nat)(fr:Fr)(lh:aE ah)
  (RQ:froz1 b=true) (yC:kept1 b=true) (D:froz1 F=true) (Ao:kept1 F=true)
  (aD:ae pE 73 [.ptr .S 2 1 0,.i .i64 2,.agg [.i .i64 x.op,.i .i64 x.num,.s x.name,b]] (ee r m kn R)=some (.agg [.i .i64 y.op,.i .i64 y.num,F],ee r m cJ R))
  (h8:aa fr 8= .ptr .L 37 1 0) (di:aa fr 14= .ptr .S 2 1 0) (il:aa fr 18= .ptr .L 18 sP 0) (yD:ab lh 18=⟨sP,.cells [.i .i64 2,.i .i64 x.op,.i .i64 x.num,.s x.name,b] 0 true⟩) (H:ab lh 37=⟨1,.cells (fg Z aT fT c r U V W X Y (fD r1 r2 r3 c1 (.nilsl) c3 .nilsl nb)) 0 true⟩) (I:ak) (J:I=mh bC∨I=mi bC):
  ∃f1 K,DC pE 232 I ⟨fr,lh,ee r m kn R⟩=some (.nrm,⟨f1,K,ee r m cJ (bD R R.length ⟨1,.cells [.i .i64 y.op,.i .i64 y.num,F] 0 false⟩)⟩)∧(∀k,(bX bC).contains k=false→k≠37→ab K k=ab lh k)∧ab K 37=⟨1,.cells (fg Z aT fT c r U V W X Y (fD r1 r2 r3 c1 (.isl .S (R.length+7) 1 0 1 3) c3 .nilsl nb)) 0 true⟩:=by
 have Kc:=E3
 unfold fg aV fD at H ⊢
 simp only[List.cons_append,List.nil_append]at H ⊢
 rcases J with rfl|rfl
 ·
  simp only[qA,seval,eI,repl,bj,aH,fC,eS,dn,bC,mh,h8,di,il,yD,H,aD,lQ,mF,yC,D,cM,cV,aY,cP,bN,dc,Dl,nD,Dm,Kc,cE,cQ,oS,Nat.lt_succ_self]
  refine⟨_,_,rfl, ?_, ?_⟩
  ·intro k hk N
   have O:k≠111:=by rintro rfl;exact absurd hk zz
   repeat (first|rw[bq _ _ N]|rw[bq _ _ O])
  ·simp only[qA,seval]
 ·
  simp only[qA,seval,eI,repl,bj,aH,fC,eS,dn,bC,mi,h8,di,il,yD,H,aD,lQ,mF,yC,D,cM,cV,aY,cP,bN,dc,Dl,nD,Dm,Kc,cE,cQ,oS,Nat.lt_succ_self]
  refine⟨_,_,rfl, ?_, ?_⟩
  ·intro k hk N
   have O:k≠111:=by rintro rfl;exact absurd hk zz
   repeat (first|rw[bq _ _ N]|rw[bq _ _ O])
  ·simp only[qA,seval]
theorem awI(c:Ct)(r U V W X Y Z aT fT nb r1 r2 r3 c1 c3:T)(m:List (List Nat×Nat))(kn cJ:List (Nat×Int))(R:List ah)(x:Ex)(b:T)(y:Fm)(F:T)(sP:Nat)(i g n:Nat)(cs:List T)(hE:aI R i=⟨g,.cells cs 0 false⟩)(hn:n*3=cs.length)(B4:n≤1000)(fr:Fr)(lh:aE ah)
  (RQ:froz1 b=true) (yC:kept1 b=true) (D:froz1 F=true) (Ao:kept1 F=true)
  (aD:ae pE 73 [.ptr .S 2 1 0,.i .i64 2,.agg [.i .i64 x.op,.i .i64 x.num,.s x.name,b]] (ee r m kn R)=some (.agg [.i .i64 y.op,.i .i64 y.num,F],ee r m cJ R))
  (h8:aa fr 8= .ptr .L 37 1 0) (di:aa fr 14= .ptr .S 2 1 0) (il:aa fr 18= .ptr .L 18 sP 0) (yD:ab lh 18=⟨sP,.cells [.i .i64 2,.i .i64 x.op,.i .i64 x.num,.s x.name,b] 0 true⟩) (H:ab lh 37=⟨1,.cells (fg Z aT fT c r U V W X Y (fD r1 r2 r3 c1 (.isl .S (i+7) g 0 n 3) c3 .nilsl nb)) 0 true⟩) (I:ak) (J:I=mh bC∨I=mi bC):
  ∃f1 K,DC pE 232 I ⟨fr,lh,ee r m kn R⟩=some (.nrm,⟨f1,K,ee r m cJ (bD R i ⟨g+1,.cells (cs++ [.i .i64 y.op,.i .i64 y.num,F]) 0 false⟩)⟩)∧(∀k,(bX bC).contains k=false→k≠37→ab K k=ab lh k)∧ab K 37=⟨1,.cells (fg Z aT fT c r U V W X Y (fD r1 r2 r3 c1 (.isl .S (i+7) (g+1) 0 (n+1) 3) c3 .nilsl nb)) 0 true⟩:=by
 have rI:(n+1)*40≤roomy:=yB B4
 unfold fg aV fD at H ⊢
 simp only[List.cons_append,List.nil_append]at H ⊢
 rcases J with rfl|rfl
 ·
  simp only[qA,seval,eI,repl,bj,aH,fC,eS,dn,bC,mh,h8,di,il,yD,H,aD,lQ,mF,yC,D,cM,cV,aY,dw,bN,dU,cz,Dl,nD,Dm,cE,cQ,fQ,oU,Nat.lt_succ_self,hE,hn,rI]
  refine⟨_,_,rfl, ?_, ?_⟩
  ·intro k hk N
   have O:k≠111:=by rintro rfl;exact absurd hk zz
   repeat (first|rw[bq _ _ N]|rw[bq _ _ O])
  ·simp only[qA,seval]
 ·
  simp only[qA,seval,eI,repl,bj,aH,fC,eS,dn,bC,mi,h8,di,il,yD,H,aD,lQ,mF,yC,D,cM,cV,aY,dw,bN,dU,cz,Dl,nD,Dm,cE,cQ,fQ,oU,Nat.lt_succ_self,hE,hn,rI]
  refine⟨_,_,rfl, ?_, ?_⟩
  ·intro k hk N
   have O:k≠111:=by rintro rfl;exact absurd hk zz
   repeat (first|rw[bq _ _ N]|rw[bq _ _ O])
  ·simp only[qA,seval]
theorem awJ(c:Ct)(r U V W X Y Z aT fT nb r1 r2 r3 c1 c2:T)(m:List (List Nat×Nat))(kn cJ:List (Nat×Int))(R:List ah)(x:Ex)(b:T)(y:Fm)(F:T)(sP:Nat)(fr:Fr)(lh:aE ah)
  (RQ:froz1 b=true) (yC:kept1 b=true) (D:froz1 F=true) (Ao:kept1 F=true)
  (aD:ae pE 73 [.ptr .S 2 1 0,.i .i64 3,.agg [.i .i64 x.op,.i .i64 x.num,.s x.name,b]] (ee r m kn R)=some (.agg [.i .i64 y.op,.i .i64 y.num,F],ee r m cJ R))
  (h8:aa fr 8= .ptr .L 37 1 0) (di:aa fr 14= .ptr .S 2 1 0) (il:aa fr 18= .ptr .L 18 sP 0) (yD:ab lh 18=⟨sP,.cells [.i .i64 3,.i .i64 x.op,.i .i64 x.num,.s x.name,b] 0 true⟩) (H:ab lh 37=⟨1,.cells (fg Z aT fT c r U V W X Y (fD r1 r2 r3 c1 c2 (.nilsl) .nilsl nb)) 0 true⟩) (I:ak) (J:I=mh bC∨I=mi bC):
  ∃f1 K,DC pE 232 I ⟨fr,lh,ee r m kn R⟩=some (.nrm,⟨f1,K,ee r m cJ (bD R R.length ⟨1,.cells [.i .i64 y.op,.i .i64 y.num,F] 0 false⟩)⟩)∧(∀k,(bX bC).contains k=false→k≠37→ab K k=ab lh k)∧ab K 37=⟨1,.cells (fg Z aT fT c r U V W X Y (fD r1 r2 r3 c1 c2 (.isl .S (R.length+7) 1 0 1 3) .nilsl nb)) 0 true⟩:=by
 have Kc:=E3
 unfold fg aV fD at H ⊢
 simp only[List.cons_append,List.nil_append]at H ⊢
 rcases J with rfl|rfl
 ·
  simp only[qA,seval,eI,repl,bj,aH,fC,eS,dn,bC,mh,h8,di,il,yD,H,aD,lQ,mF,yC,D,cM,cV,aY,cP,bN,dc,Dl,nD,Dm,Kc,cE,cQ,oS,Nat.lt_succ_self]
  refine⟨_,_,rfl, ?_, ?_⟩
  ·intro k hk N
   have O:k≠111:=by rintro rfl;exact absurd hk zz
   repeat (first|rw[bq _ _ N]|rw[bq _ _ O])
  ·simp only[qA,seval]
 ·
  simp only[qA,seval,eI,repl,bj,aH,fC,eS,dn,bC,mi,h8,di,il,yD,H,aD,lQ,mF,yC,D,cM,cV,aY,cP,bN,dc,Dl,nD,Dm,Kc,cE,cQ,oS,Nat.lt_succ_self]
  refine⟨_,_,rfl, ?_, ?_⟩
  ·intro k hk N
   have O:k≠111:=by rintro rfl;exact absurd hk zz
   repeat (first|rw[bq _ _ N]|rw[bq _ _ O])
  ·simp only[qA,seval]
theorem awK(c:Ct)(r U V W X Y Z aT fT nb r1 r2 r3 c1 c2:T)(m:List (List Nat×Nat))(kn cJ:List (Nat×Int))(R:List ah)(x:Ex)(b:T)(y:Fm)(F:T)(sP:Nat)(i g n:Nat)(cs:List T)(hE:aI R i=⟨g,.cells cs 0 false⟩)(hn:n*3=cs.length)(B4:n≤1000)(fr:Fr)(lh:aE ah)
  (RQ:froz1 b=true) (yC:kept1 b=true) (D:froz1 F=true) (Ao:kept1 F=true)
  (aD:ae pE 73 [.ptr .S 2 1 0,.i .i64 3,.agg [.i .i64 x.op,.i .i64 x.num,.s x.name,b]] (ee r m kn R)=some (.agg [.i .i64 y.op,.i .i64 y.num,F],ee r m cJ R))
  (h8:aa fr 8= .ptr .L 37 1 0) (di:aa fr 14= .ptr .S 2 1 0) (il:aa fr 18= .ptr .L 18 sP 0) (yD:ab lh 18=⟨sP,.cells [.i .i64 3,.i .i64 x.op,.i .i64 x.num,.s x.name,b] 0 true⟩) (H:ab lh 37=⟨1,.cells (fg Z aT fT c r U V W X Y (fD r1 r2 r3 c1 c2 (.isl .S (i+7) g 0 n 3) .nilsl nb)) 0 true⟩) (I:ak) (J:I=mh bC∨I=mi bC):
  ∃f1 K,DC pE 232 I ⟨fr,lh,ee r m kn R⟩=some (.nrm,⟨f1,K,ee r m cJ (bD R i ⟨g+1,.cells (cs++ [.i .i64 y.op,.i .i64 y.num,F]) 0 false⟩)⟩)∧(∀k,(bX bC).contains k=false→k≠37→ab K k=ab lh k)∧ab K 37=⟨1,.cells (fg Z aT fT c r U V W X Y (fD r1 r2 r3 c1 c2 (.isl .S (i+7) (g+1) 0 (n+1) 3) .nilsl nb)) 0 true⟩:=by
 have rI:(n+1)*40≤roomy:=yB B4
 unfold fg aV fD at H ⊢
 simp only[List.cons_append,List.nil_append]at H ⊢
 rcases J with rfl|rfl
 ·
  simp only[qA,seval,eI,repl,bj,aH,fC,eS,dn,bC,mh,h8,di,il,yD,H,aD,lQ,mF,yC,D,cM,cV,aY,dw,bN,dU,cz,Dl,nD,Dm,cE,cQ,fQ,oU,Nat.lt_succ_self,hE,hn,rI]
  refine⟨_,_,rfl, ?_, ?_⟩
  ·intro k hk N
   have O:k≠111:=by rintro rfl;exact absurd hk zz
   repeat (first|rw[bq _ _ N]|rw[bq _ _ O])
  ·simp only[qA,seval]
 ·
  simp only[qA,seval,eI,repl,bj,aH,fC,eS,dn,bC,mi,h8,di,il,yD,H,aD,lQ,mF,yC,D,cM,cV,aY,dw,bN,dU,cz,Dl,nD,Dm,cE,cQ,fQ,oU,Nat.lt_succ_self,hE,hn,rI]
  refine⟨_,_,rfl, ?_, ?_⟩
  ·intro k hk N
   have O:k≠111:=by rintro rfl;exact absurd hk zz
   repeat (first|rw[bq _ _ N]|rw[bq _ _ O])
  ·simp only[qA,seval]
theorem nG{fr:Fr}{lh:aE ah}{sh SH:List ah}{X:ah}(A: ∀F,(F=mh bC∨F=mi bC)→ ∃H r,DC pE 232 F ⟨fr,lh,sh⟩=some (.nrm,⟨H,r,SH⟩)∧(∀k,(bX bC).contains k=false→k≠37→ab r k=ab lh k)∧ab r 37=X):
  ∃D aU,DC pE 232 bC ⟨fr,lh,sh⟩=some (.nrm,⟨D,aU,SH⟩)∧(∀k,(bX bC).contains k=false→aa D k=aa fr k)∧(∀k,(bX bC).contains k=false→k≠37→ab aU k=ab lh k)∧ab aU 37=X:=by
 obtain⟨H,r,N,I,x1⟩:=A _ (.inl rfl)
 obtain⟨Y,Z,O,U,x2⟩:=A _ (.inr rfl)
 obtain⟨D,aU,V,W,J⟩:=ada (by rfl) N O (fun k hk=>by
  by_cases h:k=37
  ·subst h;rw[x1,x2]
  ·rw[I k hk h,U k hk h])
 exact⟨D,aU,V,W,fun j K h=>(J j K).trans (I j K h),(J 37 zz).trans x1⟩
theorem aCe{fr:Fr}{lh:aE ah}{D:Option (Out×St)}(c:Ct)(I a8 a9 aw aA az zT aT fT nb X Y Z J K N:T)(m:List (List Nat×Nat))(kn cJ:List (Nat×Int))(R:List ah)(x:Ex)(b:T)(y:Fm)(r:T)(sP:Nat)(sc:Int)(k:Nat)(eY:sc=1∨sc=2∨sc=3)(hk:k≤900)(l1 l2 l3 k1 k2 k3:RL)(kO:eh R k (gw X Y Z J K N .nilsl l1 l2 l3 k1 k2 k3 []))(hy:iN y [.i .i64 y.op,.i .i64 y.num,r])(hsz:y.sz≤1000)
  (RQ:froz1 b=true) (yC:kept1 b=true) (H:froz1 r=true) (Ao:kept1 r=true)
  (aD:ae pE 73 [.ptr .S 2 1 0,.i .i64 sc,.agg [.i .i64 x.op,.i .i64 x.num,.s x.name,b]] (ee I m kn R)=some (.agg [.i .i64 y.op,.i .i64 y.num,r],ee I m cJ R))
  (hD:DC pE 232 bC ⟨fr,lh,ee I m kn R⟩=D)
  (h8:aa fr 8= .ptr .L 37 1 0) (di:aa fr 14= .ptr .S 2 1 0) (il:aa fr 18= .ptr .L 18 sP 0) (yD:ab lh 18=⟨sP,.cells [.i .i64 sc,.i .i64 x.op,.i .i64 x.num,.s x.name,b] 0 true⟩) (cN:ab lh 37=⟨1,.cells (fg zT aT fT c I a8 a9 aw aA az (fD X Y Z J K N .nilsl nb)) 0 true⟩):
  ∃F aU R' c1' c2' c3',D=some (.nrm,⟨F,aU,ee I m cJ R'⟩)∧eh R' (k+1) (gw X Y Z c1' c2' c3' .nilsl l1 l2 l3 (if sc=1 then k1++ [([],y)]else k1) (if sc=2 then k2++ [([],y)]else k2) (if sc=3 then k3++ [([],y)]else k3) [])∧(∀k,(bX bC).contains k=false→aa F k=aa fr k)∧(∀k,(bX bC).contains k=false→k≠37→ab aU k=ab lh k)∧ab aU 37=⟨1,.cells (fg zT aT fT c I a8 a9 aw aA az (fD X Y Z c1' c2' c3' .nilsl nb)) 0 true⟩:=by
 have uT:vK 3 [([],y)] [.i .i64 y.op,.i .i64 y.num,r]:=by
  have:=(vK.nil 3).app3 ([],y) _ hy hsz
  simpa using this
 rcases eY with rfl|rfl|rfl
 ·rcases kO.1 (3,J,k1) (by simp[gw])with⟨hnil,yo⟩|⟨i,g,n,cs,hv,hE,hi,hn,hB,W5⟩
  ·simp only at hnil yo
   subst hnil yo
   have nE:=(kO.mono (Nat.le_succ k)).new zZ 3 (by simp[gw]) (sz:=3) rfl [.i .i64 y.op,.i .i64 y.num,r] rfl _ uT
   obtain⟨F,aU,O,U,V,W⟩:=nG (awF c I a8 a9 aw aA az zT aT fT nb X Y Z K N m kn cJ R x b y r sP fr lh RQ yC H Ao aD h8 di il yD cN)
   exact⟨F,aU,_,_,K,N,hD.symm.trans O,nE,U,V,W⟩
  ·simp only at hv
   subst hv
   have oR:=kO.app 3 (by simp[gw]) (sz:=3) rfl rfl hE hi hn hB [.i .i64 y.op,.i .i64 y.num,r] rfl _ (W5.app3 ([],y) _ hy hsz) (g+1)
   obtain⟨F,aU,O,U,V,W⟩:=nG (awG c I a8 a9 aw aA az zT aT fT nb X Y Z K N m kn cJ R x b y r sP i g n cs hE hn zZ fr lh RQ yC H Ao aD h8 di il yD cN)
   exact⟨F,aU,_,_,K,N,hD.symm.trans O,oR,U,V,W⟩
 ·rcases kO.1 (3,K,k2) (by simp[gw])with⟨hnil,yo⟩|⟨i,g,n,cs,hv,hE,hi,hn,hB,W5⟩
  ·simp only at hnil yo
   subst hnil yo
   have nE:=(kO.mono (Nat.le_succ k)).new zZ 4 (by simp[gw]) (sz:=3) rfl [.i .i64 y.op,.i .i64 y.num,r] rfl _ uT
   obtain⟨F,aU,O,U,V,W⟩:=nG (awH c I a8 a9 aw aA az zT aT fT nb X Y Z J N m kn cJ R x b y r sP fr lh RQ yC H Ao aD h8 di il yD cN)
   exact⟨F,aU,_,J,_,N,hD.symm.trans O,nE,U,V,W⟩
  ·simp only at hv
   subst hv
   have oR:=kO.app 4 (by simp[gw]) (sz:=3) rfl rfl hE hi hn hB [.i .i64 y.op,.i .i64 y.num,r] rfl _ (W5.app3 ([],y) _ hy hsz) (g+1)
   obtain⟨F,aU,O,U,V,W⟩:=nG (awI c I a8 a9 aw aA az zT aT fT nb X Y Z J N m kn cJ R x b y r sP i g n cs hE hn zZ fr lh RQ yC H Ao aD h8 di il yD cN)
   exact⟨F,aU,_,J,_,N,hD.symm.trans O,oR,U,V,W⟩
 ·rcases kO.1 (3,N,k3) (by simp[gw])with⟨hnil,yo⟩|⟨i,g,n,cs,hv,hE,hi,hn,hB,W5⟩
  ·simp only at hnil yo
   subst hnil yo
   have nE:=(kO.mono (Nat.le_succ k)).new zZ 5 (by simp[gw]) (sz:=3) rfl [.i .i64 y.op,.i .i64 y.num,r] rfl _ uT
   obtain⟨F,aU,O,U,V,W⟩:=nG (awJ c I a8 a9 aw aA az zT aT fT nb X Y Z J K m kn cJ R x b y r sP fr lh RQ yC H Ao aD h8 di il yD cN)
   exact⟨F,aU,_,J,K,_,hD.symm.trans O,nE,U,V,W⟩
  ·simp only at hv
   subst hv
   have oR:=kO.app 5 (by simp[gw]) (sz:=3) rfl rfl hE hi hn hB [.i .i64 y.op,.i .i64 y.num,r] rfl _ (W5.app3 ([],y) _ hy hsz) (g+1)
   obtain⟨F,aU,O,U,V,W⟩:=nG (awK c I a8 a9 aw aA az zT aT fT nb X Y Z J K m kn cJ R x b y r sP i g n cs hE hn zZ fr lh RQ yC H Ao aD h8 di il yD cN)
   exact⟨F,aU,_,J,K,_,hD.symm.trans O,oR,U,V,W⟩
theorem nwc(c:Ct)(r J:T)(c7 c9:List T)(i7:IsSl r c.cs.length c7)(j7:cW c.cs c7)(i9:IsSl J c.co.length c9)(j9:aC ZW c.co c9)(hlen:c.co.length≤40)(kN: ∀u∈c.co,IE c.cs u.sc u.x)(X Y Z a8 aw aA az nb K N O:T)(k2 k3 pL:ah)(AW:List (Nat×Int))(wS:iT c.cs AW)(R0:List ah)(l1 l2 l3:RL)(Lt:eh R0 40 (gw K N O .nilsl .nilsl .nilsl .nilsl l1 l2 l3 [] [] [] []))(fr:Fr)(lh:aE ah)(sh:List ah)(fB:sh=ee r (bA c.cs c.cs.length) AW R0)
  (h8:aa fr 8= .ptr .L 37 1 0) (di:aa fr 14= .ptr .S 2 1 0) (Lu:aa fr 105=J) (IF:aa fr 106= .i .i64 (c.co.length:Int)) (IG:aa fr 107= .i .i64 0) (o2:ab lh 2=k2) (o3:ab lh 3=k3) (fk:ab lh 35=pL) (cN:ab lh 37=⟨1,.cells (fg X Y Z c r a8 J aw aA az (fD K N O .nilsl .nilsl .nilsl .nilsl nb)) 0 true⟩):
  uL 232 jU fr lh sh (.ext 6)∧
  (ab (iu pE 232 jU fr lh sh) 2=k2∧ab (iu pE 232 jU fr lh sh) 3=k3∧ab (iu pE 232 jU fr lh sh) 35=pL∧ ∃(R:List ah) (kn:List (Nat×Int)) (F H I:T),jw pE 232 jU fr lh sh=ee r (bA c.cs c.cs.length) kn R∧iT c.cs kn∧eh R 80 (gw K N O F H I .nilsl l1 l2 l3 (tf c 1 c.co.length) (tf c 2 c.co.length) (tf c 3 c.co.length) [])∧ab (iu pE 232 jU fr lh sh) 37=⟨1,.cells (fg X Y Z c r a8 J aw aA az (fD K N O F H I .nilsl nb)) 0 true⟩):=by
 refine cj (P:=fun W aU aX=>ab aU 2=k2∧ab aU 3=k3∧ab aU 35=pL∧ ∃(R:List ah) (kn:List (Nat×Int)) (F H I:T),aX=ee r (bA c.cs c.cs.length) kn R∧iT c.cs kn∧eh R 80 (gw K N O F H I .nilsl l1 l2 l3 (tf c 1 c.co.length) (tf c 2 c.co.length) (tf c 3 c.co.length) [])∧ab aU 37=⟨1,.cells (fg X Y Z c r a8 J aw aA az (fD K N O F H I .nilsl nb)) 0 true⟩)
  (cU (fun k st=> ∃(fr:Fr) (U:aE ah) (R:List ah) (kn:List (Nat×Int)) (F H I:T),st=⟨fr,U,ee r (bA c.cs c.cs.length) kn R⟩∧iT c.cs kn∧eh R (40+k) (gw K N O F H I .nilsl l1 l2 l3 (tf c 1 k) (tf c 2 k) (tf c 3 k) [])∧aa fr 8= .ptr .L 37 1 0∧aa fr 14= .ptr .S 2 1 0∧aa fr 105=J∧aa fr 106= .i .i64 (c.co.length:Int)∧aa fr 107= .i .i64 (k:Int)∧ab U 2=k2∧ab U 3=k3∧ab U 35=pL∧ab U 37=⟨1,.cells (fg X Y Z c r a8 J aw aA az (fD K N O F H I .nilsl nb)) 0 true⟩) _ c.co.length ?_ ?_ 0 _ (Nat.zero_le _) ⟨fr,lh,R0,AW,.nilsl,.nilsl,.nilsl,by rw[fB],wS,Lt,h8,di,Lu,IF,IG,o2,o3,fk,cN⟩)
 ·rintro k _ hk ⟨fr,U,R,kn,F,H,I,rfl,iY,kO,h8,di,Lu,IF,IG,o2,o3,fk,cN⟩
  left
  have hk':(k:Int)<c.co.length:=zZ
  have hw:=aG (k:=k) zZ
  obtain⟨b,cb,rr,hia,eW,hb⟩:=AY i9 j9 k hk
  obtain⟨eY,V,t,hty⟩:=kN c.co[k] (List.getElem_mem hk)
  have AX:=(ib V).1
  obtain⟨cf,cJ,aD,wJ,iU,_⟩:=E1 c.cs r R c.cs.length (Nat.le_refl _) (E2 c.cs r R c7 i7 j7) c.co[k].sc (.inr eY) c.co[k].x t kn _ iY hb AX (gz V) (by rw[wU];exact hty)
  have hsz:=yA (fm c.cs) c.co[k].sc c.co[k].x
  have s1:=uS c 1 hk
  have s2:=uS c 2 hk
  have s3:=uS c 3 hk
  generalize c.co[k]=u at*
  generalize comp (fm c.cs) u.sc u.x=y at*
  obtain⟨fa,fc,rfl,AG,WJ⟩:=wJ.cells
  simp only[qA,seval,jU,Lu,IF,IG,hk',hia]
  generalize hD:DC pE 232 bC _=D
  obtain⟨W,aU,R',c1',c2',c3',rfl,hR',q2,q3,q4⟩:=aCe c r a8 J aw aA az X Y Z nb K N O F H I _ kn cJ R u.x b y fa ((ab U 18).g+1) u.sc (40+k) eY zZ l1 l2 l3 _ _ _ kO wJ zZ eW.froz1 eW.kept1 AG.froz1 AG.kept1 aD hD (by simp only[qA,seval,h8]) (by simp only[qA,seval,di]) yW yW (by simp only[qA,seval,cN])
  rw[←s1,←s2,←s3]at hR'
  have f8:aa W 8= .ptr .L 37 1 0:=by rw[q2 8 zz];simp only[qA,seval,h8]
  have f14:aa W 14= .ptr .S 2 1 0:=by rw[q2 14 zz];simp only[qA,seval,di]
  have f105:aa W 105=J:=by rw[q2 105 zz];simp only[qA,seval,Lu]
  have f106:aa W 106= .i .i64 (c.co.length:Int):=by rw[q2 106 zz];simp only[qA,seval,IF]
  have f107:aa W 107= .i .i64 (k:Int):=by rw[q2 107 zz];simp only[qA,seval,IG]
  have p2:ab aU 2=k2:=by rw[q3 2 zz zz];simp only[qA,seval,o2]
  have p3:ab aU 3=k3:=by rw[q3 3 zz zz];simp only[qA,seval,o3]
  have p35:ab aU 35=pL:=by rw[q3 35 zz zz];simp only[qA,seval,fk]
  simp only[qA,seval,f107,hw]
  refine⟨_,rfl,_,_,R',cJ,c1',c2',c3',rfl,iU,hR', ?_, ?_, ?_, ?_, ?_, ?_, ?_, ?_, ?_⟩
  all_goals (simp only[qA,seval,f8,f14,f105,f106,p2,p3,p35,q4])
 ·rintro _ ⟨fr,U,R,kn,F,H,I,rfl,iY,kO,h8,di,Lu,IF,IG,o2,o3,fk,cN⟩
  simp only[qA,seval,jU,IF,IG,Int.lt_irrefl]
  exact⟨_,_,sy,rfl,rfl,o2,o3,fk,R,kn,F,H,I,rfl,iY,kO.mono zZ,cN⟩
def adl:T→Bool
 | .ptr .S .. =>true
 |_=>false
theorem jM{k g off:Nat}:adl (.ptr .S k g off)=true:=nr rfl
def Ca:T→FP
 | .ptr .S k _ _=>⟨false,[(.S,k)],[(.S,k)]⟩
 |_=>fF
section
variable{E:Env}{call:jB}{n:Nat}{fr:Fr}{lh:aE ah}{sh:List ah}{ds:List (List Nat×aF)}{bo:List FP}{u:List Nat}
theorem xQ{x v:aP}{m:Nat}(hx:adl (rd fr x)=true)(K:froz (rd fr v)=true):aK E call n ((u,⟨none,.st x v m,none⟩)::ds) bo ⟨fr,lh,sh⟩=
  if meets u bo (Ca (rd fr x))=true then ke E call n ds (bo++ [Ca (rd fr x)]) (ai E call n [⟨none,.st x v m,none⟩] ⟨fr,lh,sh⟩)else none:=by
 refine mJ fun F=> ?_
 cases D:rd fr x with
 |ptr sp k g off=>
  cases sp with
  |L=>rw[D]at hx;simp[adl]at hx
  |S=>
   by_cases J:(decide ((cellsOf (rd fr v)).length≠m)|| !noTup (rd fr v))=true
   ·obtain⟨w,I,hr,r⟩:=pD (q:= .fail) (by rfl) (by rw[dh];simp only[bt,mY,D];rw[if_pos J]) F
    simp[Q.run]at hr
   ·obtain⟨w,I,hr,r⟩:=pD (q:= .rd .S k (Ij k g off m (rd fr v))) (by rfl) (by rw[dh];simp only[bt,mY,D];rw[if_neg J];rfl) F
    simp only[Q.run,Q.log,Q.asks]at hr r
    generalize N:(St.mk fr lh sh).get .S k=e at hr r
    obtain⟨O,ob⟩:=e
    unfold Ij at hr r
    by_cases H:O=g
    ·cases ob with
     |none=>simp[H,Q.run]at hr
     |map ks V z=>simp[H,Q.run]at hr
     |cells cs W bx=>
      simp only[H,if_true]at hr r
      split at hr
      ·rename_i hc
       rw[if_pos hc]at r
       have hs:(bx&&(Sp.S==Sp.L))=false:=by cases bx <;> rfl
       rw[hs]at hr r
       simp only[Bool.false_eq_true,if_false]at hr r
       unfold aJ at hr r
       rw[jv K]at hr r
       simp only[Q.bind]at hr r
       split at hr
       ·simp[Q.run]at hr
       ·rename_i U
        rw[if_neg U]at r
        simp[Q.run]at hr
        obtain⟨rfl,rfl⟩:=hr
        rw[r (by simp[inB,xq,N])]
        rfl
      ·simp[Q.run]at hr
    ·simp only[H,if_false,Q.run]at hr
     cases hr
 |_=>rw[D]at hx;simp[adl]at hx
theorem fo{k g off:Nat}:Ca (.ptr .S k g off)=⟨false,[(.S,k)],[(.S,k)]⟩:=nr rfl
end
theorem nwd(c:Ct)(r U:T)(c7 ti:List T)(i7:IsSl r c.cs.length c7)(j7:cW c.cs c7)(i10:IsSl U c.cr.length ti)(ye:cw c.cr ti)(hlen:c.cr.length≤40)(kN: ∀u∈c.cr,IE c.cs 1 u)(zT aT fT a8 a9 aA az nb D F H I J K:T)(k2 k3 pL:ah)(AW:List (Nat×Int))(wS:iT c.cs AW)(R0:List ah)(l1 l2 l3 q1 q2 q3:RL)(Lt:eh R0 80 (gw D F H I J K .nilsl l1 l2 l3 q1 q2 q3 []))(fr:Fr)(lh:aE ah)(sh:List ah)(fB:sh=ee r (bA c.cs c.cs.length) AW R0)
  (V:aa fr 8= .ptr .L 37 1 0) (W:aa fr 14= .ptr .S 2 1 0) (E5:aa fr 156=U) (Cb:aa fr 157= .i .i64 (c.cr.length:Int)) (II:aa fr 158= .i .i64 0) (Y:ab lh 2=k2) (Z:ab lh 3=k3) (fk:ab lh 35=pL) (N:ab lh 37=⟨1,.cells (fg zT aT fT c r a8 a9 U aA az (fD D F H I J K .nilsl nb)) 0 true⟩):
  uL 232 je fr lh sh (.ext 8)∧
  (ab (iu pE 232 je fr lh sh) 2=k2∧ab (iu pE 232 je fr lh sh) 3=k3∧ab (iu pE 232 je fr lh sh) 35=pL∧ ∃(R:List ah) (kn:List (Nat×Int)) (cr:T),jw pE 232 je fr lh sh=ee r (bA c.cs c.cs.length) kn R∧iT c.cs kn∧eh R 120 (gw D F H I J K cr l1 l2 l3 q1 q2 q3 (RO c c.cr.length))∧ab (iu pE 232 je fr lh sh) 37=⟨1,.cells (fg zT aT fT c r a8 a9 U aA az (fD D F H I J K cr nb)) 0 true⟩):=by
 refine cj (P:=fun cK aU aX=>ab aU 2=k2∧ab aU 3=k3∧ab aU 35=pL∧ ∃(R:List ah) (kn:List (Nat×Int)) (cr:T),aX=ee r (bA c.cs c.cs.length) kn R∧iT c.cs kn∧eh R 120 (gw D F H I J K cr l1 l2 l3 q1 q2 q3 (RO c c.cr.length))∧ab aU 37=⟨1,.cells (fg zT aT fT c r a8 a9 U aA az (fD D F H I J K cr nb)) 0 true⟩)
  (cU (fun k st=> ∃(fr:Fr) (X:aE ah) (R:List ah) (kn:List (Nat×Int)) (cr:T),st=⟨fr,X,ee r (bA c.cs c.cs.length) kn R⟩∧iT c.cs kn∧eh R (80+k) (gw D F H I J K cr l1 l2 l3 q1 q2 q3 (RO c k))∧aa fr 8= .ptr .L 37 1 0∧aa fr 14= .ptr .S 2 1 0∧aa fr 156=U∧aa fr 157= .i .i64 (c.cr.length:Int)∧aa fr 158= .i .i64 (k:Int)∧ab X 2=k2∧ab X 3=k3∧ab X 35=pL∧ab X 37=⟨1,.cells (fg zT aT fT c r a8 a9 U aA az (fD D F H I J K cr nb)) 0 true⟩) _ c.cr.length ?_ ?_ 0 _ (Nat.zero_le _) ⟨fr,lh,R0,AW,.nilsl,by rw[fB],wS,Lt,V,W,E5,Cb,II,Y,Z,fk,N⟩)
 ·rintro k _ hk ⟨fr,X,R,kn,cr,rfl,iY,kO,V,W,E5,Cb,II,Y,Z,fk,N⟩
  left
  have hk':(k:Int)<c.cr.length:=zZ
  have hw:=aG (k:=k) zZ
  obtain⟨b,cb,rr,hia,eW,te,hb⟩:=mK i10 ye k hk
  obtain⟨eY,O,t,hty⟩:=kN c.cr[k] (List.getElem_mem hk)
  have AX:=(ib O).1
  obtain⟨cf,cJ,aD,wJ,iU,_⟩:=E1 c.cs r R c.cs.length (Nat.le_refl _) (E2 c.cs r R c7 i7 j7) 1 (.inr eY) c.cr[k] t kn _ iY hb AX (gz O) (by rw[wU];exact hty)
  have hsz:=yA (fm c.cs) 1 c.cr[k]
  have s1:=W4 c hk
  generalize c.cr[k]=u at*
  generalize comp (fm c.cs) 1 u=y at*
  obtain⟨fa,fc,rfl,AG,WJ⟩:=wJ.cells
  have uT:vK 3 [([],y)] [.i .i64 y.op,.i .i64 y.num,fa]:=by
   have:=(vK.nil 3).app3 ([],y) _ wJ (by show y.sz≤1000;omega)
   simpa using this
  have Kc:=E3
  unfold fg aV fD at N ⊢
  simp only[List.cons_append,List.nil_append]at N ⊢
  rcases kO.1 (3,cr,RO c k) (by simp[gw])with⟨hnil,yo⟩|⟨i,g,n,cs,hv,hE,hi,hn,hB,hfz⟩
  ·simp only at hnil yo
   subst hnil
   rw[yo,List.nil_append]at s1
   have nE:=(kO.mono (Nat.le_succ (80+k))).new zZ 6 (by simp[gw]) (sz:=3) rfl [.i .i64 y.op,.i .i64 y.num,fa] rfl _ uT
   simp only[qA,seval,repl,bj,AJ,aH,fC,eS,dn,je,V,W,E5,Cb,II,N,hk',hia,hw,aD,lQ,mF,eW.kept1,AG.froz1,cM,cV,aY,cP,dc,Dl,nD,Dm,Kc,cE,cQ,oS,Nat.lt_succ_self,xQ,jM,fo]
   refine⟨_,rfl,_,_,bD R R.length ⟨1,.cells [.i .i64 y.op,.i .i64 y.num,fa] 0 false⟩,cJ,.isl .S (R.length+7) 1 0 1 3,rfl,iU,(by rw[s1];exact nE), ?_, ?_, ?_, ?_, ?_, ?_, ?_, ?_, ?_⟩
   all_goals (simp only[qA,seval,V,W,E5,Cb,Y,Z,fk])
  ·simp only at hv
   subst hv
   have oR:=kO.app 6 (by simp[gw]) (sz:=3) rfl rfl hE hi hn hB [.i .i64 y.op,.i .i64 y.num,fa] rfl _ (hfz.app3 ([],y) _ wJ (by show y.sz≤1000;omega)) (g+1)
   have rI:(n+1)*40≤roomy:=yB zZ
   simp only[qA,seval,repl,bj,AJ,aH,fC,eS,dn,je,V,W,E5,Cb,II,N,hk',hia,hw,aD,lQ,mF,eW.kept1,AG.froz1,cM,cV,aY,dw,dU,cz,Dl,nD,Dm,cE,cQ,fQ,oU,Nat.lt_succ_self,xQ,jM,fo,hE,hn,rI]
   refine⟨_,rfl,_,_,bD R i ⟨g+1,.cells (cs++ [.i .i64 y.op,.i .i64 y.num,fa]) 0 false⟩,cJ,.isl .S (i+7) (g+1) 0 (n+1) 3,rfl,iU,(by rw[s1];exact oR), ?_, ?_, ?_, ?_, ?_, ?_, ?_, ?_, ?_⟩
   all_goals (simp only[qA,seval,V,W,E5,Cb,Y,Z,fk])
 ·rintro _ ⟨fr,X,R,kn,cr,rfl,iY,kO,V,W,E5,Cb,II,Y,Z,fk,N⟩
  simp only[qA,seval,je,Cb,II,Int.lt_irrefl]
  exact⟨_,_,sy,rfl,rfl,Y,Z,fk,R,kn,cr,rfl,iY,kO.mono zZ,N⟩
theorem IJ{lh:aE ah}{sh:List ah}{k g off r:Nat}{cs:List T}(D:aI sh k=⟨g,.cells cs r false⟩)(hc:cs.all froz1=true):fzV lh sh false (.ptr .S k g off)=some (.vp (cs.drop off),[(.S,k,⟨g,.cells cs cs.length false⟩)]):=by
 have F:(cs.drop off).all froz1=true:=by
  rw[List.all_eq_true]at hc ⊢
  exact fun x hx=>hc x (List.mem_of_mem_drop hx)
 have H:(St.mk .nil lh sh).get .S k=aI sh k:=rfl
 unfold fzV aJ
 rw[fz]
 simp only[Bool.false_and,Bool.false_eq_true,if_false,Q.run,H,D,if_true]
 rw[gY _ F]
 rfl
theorem awL{f:Fm}{c:List T}(h:iN f c):c.all froz1=true:=by
 obtain⟨a,r,rfl,h1,h2⟩:=h.cells
 simp[h1.froz1,uG]
theorem ahs: ∀{l:List Fm} {cs:List T},be l cs→cs.all froz1=true
 | [],cs,h=>by rw[be]at h;rw[h];rfl
 |f::l,cs,h=>by
  rw[be]at h
  obtain⟨c,r,h1,h2,h3⟩:=h
  rw[h1,List.all_append,awL h2,ahs h3];rfl
theorem awM: ∀{l:List (List Nat×Fm)} {cs:List T},aC RlR l cs→cs.all froz1=true
 | [],cs,h=>by rw[aC]at h;rw[h];rfl
 |u::l,cs,h=>by
  obtain⟨c,r,rfl,⟨D,rfl,h2⟩,h3⟩:=h
  rw[List.all_append,awM h3,List.all_cons,awL h2];rfl
theorem vK.froz{sz:Nat}{l:RL}{cs:List T}(h:vK sz l cs):cs.all froz1=true:=by
 have h1:=h.1
 split at h1
 ·exact awM h1
 ·exact ahs h1
theorem vK.at4{l:RL}{cs:List T}(h:vK 4 l cs){n k:Nat}(H:n*4=cs.length)(hk:k<n): ∃(f:Fm) (b:T) (F r:List T),cs.drop (k*4+1)= .i .i64 f.op:: .i .i64 f.num::b::r∧IsSl b f.args.length F∧be f.args F∧f.sz≤1000:=by
 have h2:=h.2
 have h1:=h.1
 rw[if_pos rfl]at h1
 have I:=aC.len RlR.len h1
 have D:k<l.length:=zZ
 obtain⟨c,r,h3,J,rfl,h4⟩:=aC.drop RlR.len k D h1
 obtain⟨b,F,rfl,h5,h6⟩:=h4.cells
 refine⟨l[k].2,b,F,r, ?_,h5,h6,h2 _ (List.getElem_mem D)⟩
 rw[←List.drop_drop,h3]
 rfl
theorem vK.at3{l:RL}{cs:List T}(h:vK 3 l cs){n k:Nat}(I:n*3=cs.length)(hk:k<n): ∃(f:Fm) (b:T) (F r:List T),cs.drop (k*3)= .i .i64 f.op:: .i .i64 f.num::b::r∧IsSl b f.args.length F∧be f.args F∧f.sz≤1000:=by
 have h2:=h.2
 have h1:=h.1
 rw[if_neg zz]at h1
 have H:=be.len h1
 rw[List.length_map]at H
 have D:k<l.length:=zZ
 have W0:k<(l.map Prod.snd).length:=by simpa using D
 obtain⟨c,r,h3,h4,_⟩:=be.drop k W0 h1
 rw[List.getElem_map]at h4
 obtain⟨b,F,rfl,h5,h6⟩:=h4.cells
 exact⟨l[k].2,b,F,r,h3,h5,h6,h2 _ (List.getElem_mem D)⟩
def RwW(R:List ah)(p:Nat×T×RL):Prop:=(p.2.1= .nilsl∧p.2.2= [])∨ ∃i g n cs r,p.2.1= .isl .S (i+7) g 0 n p.1∧aI R i=⟨g,.cells cs r false⟩∧i<R.length∧n*p.1=cs.length∧n≤1000∧vK p.1 p.2.2 cs
def sQ(R:List ah)(r:List (Nat×T×RL)):Prop:= ∀p∈r,RwW R p
theorem eh.toW{R:List ah}{B:Nat}{r:List (Nat×T×RL)}(h:eh R B r)(F:B≤1000):sQ R r:=fun p D=>by
 rcases h.1 p D with h|⟨i,g,n,cs,h1,h2,h3,h4,h5,h6⟩
 ·exact .inl h
 ·exact .inr ⟨i,g,n,cs,0,h1,h2,h3,h4,by omega,h6⟩
theorem aCf(c:Ct)(F a8 a9 aw aA az zT aT fT I D J K N O cr:T)(m:List (List Nat×Nat))(kn:List (Nat×Int))(W6:Bool)(R0:List ah)(l1 l2 l3 e1 e2 e3 er:RL)(Lt:sQ R0 (gw I D J K N O cr l1 l2 l3 e1 e2 e3 er))(U:Nat)(B5:(D= .nilsl∧U=0)∨ ∃i g,D= .isl .S (i+7) g 0 U 4)(B4:U≤1000)(k2 k3 pL:ah)(fr:Fr)(lh:aE ah)(sh:List ah)(fB:sh=ee F m kn R0)
  (Y:aa fr 8= .ptr .L 37 1 0) (V:aa fr 181= .i .i64 (U:Int)) (hi:aa fr 182= .i .i64 0) (o2:ab lh 2=k2) (o3:ab lh 3=k3) (fk:ab lh 35=pL) (W:ab lh 37=⟨1,.cells (fg zT aT fT c F a8 a9 aw aA az (fD I D J K N O cr (.b W6))) 0 true⟩):
  uL 232 jd fr lh sh (.ext 10)∧
  (ab (iu pE 232 jd fr lh sh) 2=k2∧ab (iu pE 232 jd fr lh sh) 3=k3∧ab (iu pE 232 jd fr lh sh) 35=pL∧ ∃(R:List ah) (H:Bool),jw pE 232 jd fr lh sh=ee F m kn R∧sQ R (gw I D J K N O cr l1 l2 l3 e1 e2 e3 er)∧ab (iu pE 232 jd fr lh sh) 37=⟨1,.cells (fg zT aT fT c F a8 a9 aw aA az (fD I D J K N O cr (.b H))) 0 true⟩):=by
 refine cj (P:=fun cK aU aX=>ab aU 2=k2∧ab aU 3=k3∧ab aU 35=pL∧ ∃(R:List ah) (H:Bool),aX=ee F m kn R∧sQ R (gw I D J K N O cr l1 l2 l3 e1 e2 e3 er)∧ab aU 37=⟨1,.cells (fg zT aT fT c F a8 a9 aw aA az (fD I D J K N O cr (.b H))) 0 true⟩)
  (cU (fun k st=> ∃(fr:Fr) (Z:aE ah) (R:List ah) (H:Bool),st=⟨fr,Z,ee F m kn R⟩∧sQ R (gw I D J K N O cr l1 l2 l3 e1 e2 e3 er)∧aa fr 8= .ptr .L 37 1 0∧aa fr 181= .i .i64 (U:Int)∧aa fr 182= .i .i64 (k:Int)∧ab Z 2=k2∧ab Z 3=k3∧ab Z 35=pL∧ab Z 37=⟨1,.cells (fg zT aT fT c F a8 a9 aw aA az (fD I D J K N O cr (.b H))) 0 true⟩) _ U ?_ ?_ 0 _ (Nat.zero_le _) ⟨fr,lh,R0,W6,by rw[fB],Lt,Y,V,hi,o2,o3,fk,W⟩)
 ·rintro k _ hk ⟨fr,Z,R,H,rfl,kO,Y,V,hi,o2,o3,fk,W⟩
  left
  have hk':(k:Int)<U:=zZ
  have hw:=aG (k:=k) zZ
  have AZ: ∃i g,D= .isl .S (i+7) g 0 U 4:=by
   rcases B5 with⟨_,h⟩|h
   ·omega
   ·exact h
  obtain⟨i0,g0,AZ⟩:=AZ
  rcases kO (4,D,l2) (by simp[gw])with⟨X,_⟩|⟨i,g,n,cs,wm,hv,hE,lO,hn,hB,hfz⟩
  ·simp only[AZ]at X;cases X
  simp only[AZ]at hv
  injection hv with _ q1 q2 _ q3 _
  have q1:i0=i:=zZ
  subst q1 q2 q3
  obtain⟨f,b,cb,r,hdr,hb,RM,aCg⟩:=hfz.at4 hn hk
  have hus:=aho (p:=1) f b cb r hb RM zZ
  have hcz:=hfz.froz
  have hz: ∀lh,fzV lh (ee F m kn R) false (.ptr .S (i0+7) g0 (k*4+1))=some (.vp (.i .i64 f.op:: .i .i64 f.num::b::r),[(.S,i0+7,⟨g0,.cells cs cs.length false⟩)]):=fun lh=>by
   rw[IJ (by rw[Dl];exact hE) hcz,hdr]
  have hzL: ∀lh,yn lh (ee F m kn R) false [.ptr .S (i0+7) g0 (k*4+1),.i .i64 1]=some ([.vp (.i .i64 f.op:: .i .i64 f.num::b::r),.i .i64 1],[(.S,i0+7,⟨g0,.cells cs cs.length false⟩)]):=fun lh=>by
   rw[np,np,EB,hz lh,qd (by rfl)];rfl
  have eY: ∀x,scalar (.b x)=true:=fun _=>rfl
  unfold fg aV fD at W ⊢
  simp only[List.cons_append,List.nil_append,AZ]at W ⊢
  cases H with
  |true=>
   simp only[qA,seval,jd,Y,V,hi,W,hk',hw]
   refine⟨_,rfl,_,_,R,true,rfl,(by rw[←AZ];exact kO), ?_, ?_, ?_, ?_, ?_, ?_, ?_⟩
   all_goals (simp only[qA,seval,Y,V,o2,o3,fk])
  |false=>
   simp only[qA,seval,eI,jd,Y,V,hi,W,hk',hw,hzL,hus,eY,asY,hk]
   refine⟨_,rfl,_,_,R,f.us 1,rfl,(by rw[←AZ];exact kO), ?_, ?_, ?_, ?_, ?_, ?_, ?_⟩
   all_goals (simp only[qA,seval,Y,V,o2,o3,fk])
 ·rintro _ ⟨fr,Z,R,H,rfl,kO,Y,V,hi,o2,o3,fk,W⟩
  simp only[qA,seval,jd,V,hi,Int.lt_irrefl]
  exact⟨_,_,sy,rfl,rfl,o2,o3,fk,R,H,rfl,kO,W⟩
theorem aCi(c:Ct)(F a8 a9 aw aA az zT aT fT I J K N D O cr:T)(m:List (List Nat×Nat))(kn:List (Nat×Int))(W6:Bool)(R0:List ah)(l1 l2 l3 e1 e2 e3 er:RL)(Lt:sQ R0 (gw I J K N D O cr l1 l2 l3 e1 e2 e3 er))(U:Nat)(B5:(D= .nilsl∧U=0)∨ ∃i g,D= .isl .S (i+7) g 0 U 3)(B4:U≤1000)(k2 k3 pL:ah)(fr:Fr)(lh:aE ah)(sh:List ah)(fB:sh=ee F m kn R0)
  (Y:aa fr 8= .ptr .L 37 1 0) (V:aa fr 209= .i .i64 (U:Int)) (hi:aa fr 210= .i .i64 0) (o2:ab lh 2=k2) (o3:ab lh 3=k3) (fk:ab lh 35=pL) (W:ab lh 37=⟨1,.cells (fg zT aT fT c F a8 a9 aw aA az (fD I J K N D O cr (.b W6))) 0 true⟩):
  uL 232 jc fr lh sh (.ext 12)∧
  (ab (iu pE 232 jc fr lh sh) 2=k2∧ab (iu pE 232 jc fr lh sh) 3=k3∧ab (iu pE 232 jc fr lh sh) 35=pL∧ ∃(R:List ah) (H:Bool),jw pE 232 jc fr lh sh=ee F m kn R∧sQ R (gw I J K N D O cr l1 l2 l3 e1 e2 e3 er)∧ab (iu pE 232 jc fr lh sh) 37=⟨1,.cells (fg zT aT fT c F a8 a9 aw aA az (fD I J K N D O cr (.b H))) 0 true⟩):=by
 refine cj (P:=fun cK aU aX=>ab aU 2=k2∧ab aU 3=k3∧ab aU 35=pL∧ ∃(R:List ah) (H:Bool),aX=ee F m kn R∧sQ R (gw I J K N D O cr l1 l2 l3 e1 e2 e3 er)∧ab aU 37=⟨1,.cells (fg zT aT fT c F a8 a9 aw aA az (fD I J K N D O cr (.b H))) 0 true⟩)
  (cU (fun k st=> ∃(fr:Fr) (Z:aE ah) (R:List ah) (H:Bool),st=⟨fr,Z,ee F m kn R⟩∧sQ R (gw I J K N D O cr l1 l2 l3 e1 e2 e3 er)∧aa fr 8= .ptr .L 37 1 0∧aa fr 209= .i .i64 (U:Int)∧aa fr 210= .i .i64 (k:Int)∧ab Z 2=k2∧ab Z 3=k3∧ab Z 35=pL∧ab Z 37=⟨1,.cells (fg zT aT fT c F a8 a9 aw aA az (fD I J K N D O cr (.b H))) 0 true⟩) _ U ?_ ?_ 0 _ (Nat.zero_le _) ⟨fr,lh,R0,W6,by rw[fB],Lt,Y,V,hi,o2,o3,fk,W⟩)
 ·rintro k _ hk ⟨fr,Z,R,H,rfl,kO,Y,V,hi,o2,o3,fk,W⟩
  left
  have hk':(k:Int)<U:=zZ
  have hw:=aG (k:=k) zZ
  have AZ: ∃i g,D= .isl .S (i+7) g 0 U 3:=by
   rcases B5 with⟨_,h⟩|h
   ·omega
   ·exact h
  obtain⟨i0,g0,AZ⟩:=AZ
  rcases kO (3,D,e2) (by simp[gw])with⟨X,_⟩|⟨i,g,n,cs,wm,hv,hE,lO,hn,hB,hfz⟩
  ·simp only[AZ]at X;cases X
  simp only[AZ]at hv
  injection hv with _ q1 q2 _ q3 _
  have q1:i0=i:=zZ
  subst q1 q2 q3
  obtain⟨f,b,cb,r,hdr,hb,RM,aCg⟩:=hfz.at3 hn hk
  have hus:=aho (p:=1) f b cb r hb RM zZ
  have hcz:=hfz.froz
  have hz: ∀lh,fzV lh (ee F m kn R) false (.ptr .S (i0+7) g0 (k*3))=some (.vp (.i .i64 f.op:: .i .i64 f.num::b::r),[(.S,i0+7,⟨g0,.cells cs cs.length false⟩)]):=fun lh=>by
   rw[IJ (by rw[Dl];exact hE) hcz,hdr]
  have hzL: ∀lh,yn lh (ee F m kn R) false [.ptr .S (i0+7) g0 (k*3),.i .i64 1]=some ([.vp (.i .i64 f.op:: .i .i64 f.num::b::r),.i .i64 1],[(.S,i0+7,⟨g0,.cells cs cs.length false⟩)]):=fun lh=>by
   rw[np,np,EB,hz lh,qd (by rfl)];rfl
  have eY: ∀x,scalar (.b x)=true:=fun _=>rfl
  unfold fg aV fD at W ⊢
  simp only[List.cons_append,List.nil_append,AZ]at W ⊢
  cases H with
  |true=>
   simp only[qA,seval,jc,Y,V,hi,W,hk',hw]
   refine⟨_,rfl,_,_,R,true,rfl,(by rw[←AZ];exact kO), ?_, ?_, ?_, ?_, ?_, ?_, ?_⟩
   all_goals (simp only[qA,seval,Y,V,o2,o3,fk])
  |false=>
   simp only[qA,seval,eI,jc,Y,V,hi,W,hk',hw,hzL,hus,eY,asY,hk]
   refine⟨_,rfl,_,_,R,f.us 1,rfl,(by rw[←AZ];exact kO), ?_, ?_, ?_, ?_, ?_, ?_, ?_⟩
   all_goals (simp only[qA,seval,Y,V,o2,o3,fk])
 ·rintro _ ⟨fr,Z,R,H,rfl,kO,Y,V,hi,o2,o3,fk,W⟩
  simp only[qA,seval,jc,V,hi,Int.lt_irrefl]
  exact⟨_,_,sy,rfl,rfl,o2,o3,fk,R,H,rfl,kO,W⟩
theorem aCj{fr:Fr}{lh:aE ah}{sh:List ah}{D:Option (Out×St)}(l:List Zo)(H:(l.map Zo.nm).Nodup)(a:T)(I:List T)(W:IsSl a l.length I)(hc:aC BE l I)(F:l.length≤100)(J K yY Mw:ah)(X:DC pE 232 (.loop jf) ⟨fr,lh,sh⟩=D)
  (Y:aa fr 9= .mp .L 38 1) (N:aa fr 40=a) (WZ:aa fr 41= .i .i64 (l.length:Int)) (O:aa fr 42= .i .i64 0) (Z:ab lh 2=J) (o3:ab lh 3=K) (fk:ab lh 35=yY) (cN:ab lh 37=Mw) (IB:ab lh 38=⟨1,.map [] [] false⟩):
  ∃(U:Fr) (aU:aE ah) (V:List ah),D=some (.ext 0,⟨U,aU,V⟩)∧(ab aU 2=J∧ab aU 3=K∧ab aU 35=yY∧ab aU 37=Mw∧(∃m,ab aU 38=⟨1,.map (m.map fun p=>sK p.1) (m.map fun p=>T.agg p.2) false⟩∧Lr l m∧m.map Prod.fst=l.map Zo.nm)∧V=sh)∧ ∀s,(bX (.loop jf)).contains s=false→aa U s=aa fr s:=by
 obtain⟨e,r⟩:=nwz l H a I W hc F J K yY Mw fr lh sh Y N WZ O Z o3 fk cN IB
 exact⟨_,_,_,X.symm.trans e,r,fun s hs=>fV e s hs⟩
theorem aCk{fr:Fr}{lh:aE ah}{sh:List ah}{D:Option (Out×St)}(l:List Ap)(I:(l.map Ap.cd).Nodup)(a:T)(J:List T)(ha:IsSl a l.length J)(hc:aC Ls l J)(F:l.length≤100)(H:List Zo)(m:List (List Nat×List T))(K:Lr H m∧m.map Prod.fst=H.map Zo.nm)(N: ∀u∈l,u.zn∈H.map Zo.nm)(O U V:T)(c:Ct)(W X Y Z aA az:T)(vs:List T)(c2 c3:ah)(hD:DC pE 232 (.loop jV) ⟨fr,lh,sh⟩=D)
  (h8:aa fr 8= .ptr .L 37 1 0) (h9:aa fr 9= .mp .L 38 1) (RN:aa fr 52=a) (Dp:aa fr 53= .i .i64 (l.length:Int)) (Gu:aa fr 54= .i .i64 0) (o2:ab lh 2=c2) (o3:ab lh 3=c3) (fk:ab lh 35=⟨1,.map [] [] false⟩) (cN:ab lh 37=⟨1,.cells (fg O U V c W X Y Z aA az vs) 0 true⟩) (IB:ab lh 38=⟨1,.map (m.map fun p=>sK p.1) (m.map fun p=>T.agg p.2) false⟩):
  ∃(cK:Fr) (aU:aE ah) (aX:List ah),D=some (.ext 2,⟨cK,aU,aX⟩)∧(ab aU 2=c2∧ab aU 3=c3∧ab aU 37=⟨1,.cells (fg O U V c W X Y Z aA az vs) 0 true⟩∧(∃q,ab aU 35=⟨1,.map (q.map fun p=>sK p.1) (q.map fun p=>T.agg p.2) false⟩∧W2 H l q∧q.map Prod.fst=l.map Ap.cd)∧aX=sh)∧ ∀s,(bX (.loop jV)).contains s=false→aa cK s=aa fr s:=by
 obtain⟨e,r⟩:=nwa l I a J ha hc F H m K N O U V c W X Y Z aA az vs c2 c3 fr lh sh h8 h9 RN Dp Gu o2 o3 fk cN IB
 exact⟨_,_,_,hD.symm.trans e,r,fun s hs=>fV e s hs⟩
theorem aCl{fr:Fr}{lh:aE ah}{sh:List ah}{D:Option (Out×St)}(c:Ct)(F H:T)(c7 c8:List T)(i7:IsSl F c.cs.length c7)(j7:cW c.cs c7)(i8:IsSl H c.ru.length c8)(j8:aC RP c.ru c8)(I:c.ru.length≤40)(kN: ∀u∈c.ru,IE c.cs u.sc u.x)(J K N O U V W X:T)(Y Z yY:ah)(AW:List (Nat×Int))(wS:iT c.cs AW)(hD:DC pE 232 (.loop fE) ⟨fr,lh,sh⟩=D)(fB:sh=ee F (bA c.cs c.cs.length) AW [])
  (h8:aa fr 8= .ptr .L 37 1 0) (di:aa fr 14= .ptr .S 2 1 0) (Dq:aa fr 73=H) (BF:aa fr 74= .i .i64 (c.ru.length:Int)) (NA:aa fr 75= .i .i64 0) (o2:ab lh 2=Y) (o3:ab lh 3=Z) (fk:ab lh 35=yY) (cN:ab lh 37=⟨1,.cells (fg J K N c F H O U V W (fD .nilsl .nilsl .nilsl .nilsl .nilsl .nilsl .nilsl X)) 0 true⟩):
  ∃(cK:Fr) (aU:aE ah) (aX:List ah),D=some (.ext 4,⟨cK,aU,aX⟩)∧(ab aU 2=Y∧ab aU 3=Z∧ab aU 35=yY∧ ∃(R:List ah) (kn:List (Nat×Int)) (r1 r2 r3:T),aX=ee F (bA c.cs c.cs.length) kn R∧iT c.cs kn∧eh R 40 (gw r1 r2 r3 .nilsl .nilsl .nilsl .nilsl (vL c 1 c.ru.length) (vL c 2 c.ru.length) (vL c 3 c.ru.length) [] [] [] [])∧ab aU 37=⟨1,.cells (fg J K N c F H O U V W (fD r1 r2 r3 .nilsl .nilsl .nilsl .nilsl X)) 0 true⟩)∧ ∀s,(bX (.loop fE)).contains s=false→aa cK s=aa fr s:=by
 obtain⟨e,r⟩:=nwr c F H c7 c8 i7 j7 i8 j8 I kN J K N O U V W X Y Z yY AW wS fr lh sh fB h8 di Dq BF NA o2 o3 fk cN
 exact⟨_,_,_,hD.symm.trans e,r,fun s hs=>fV e s hs⟩
theorem aCm{fr:Fr}{lh:aE ah}{sh:List ah}{D:Option (Out×St)}(c:Ct)(F H:T)(c7 c9:List T)(i7:IsSl F c.cs.length c7)(j7:cW c.cs c7)(i9:IsSl H c.co.length c9)(j9:aC ZW c.co c9)(I:c.co.length≤40)(kN: ∀u∈c.co,IE c.cs u.sc u.x)(O U V W X Y Z nb J K N:T)(k2 k3 pL:ah)(AW:List (Nat×Int))(wS:iT c.cs AW)(R0:List ah)(l1 l2 l3:RL)(Lt:eh R0 40 (gw J K N .nilsl .nilsl .nilsl .nilsl l1 l2 l3 [] [] [] []))(hD:DC pE 232 (.loop jU) ⟨fr,lh,sh⟩=D)(fB:sh=ee F (bA c.cs c.cs.length) AW R0)
  (h8:aa fr 8= .ptr .L 37 1 0) (di:aa fr 14= .ptr .S 2 1 0) (Lu:aa fr 105=H) (IF:aa fr 106= .i .i64 (c.co.length:Int)) (IG:aa fr 107= .i .i64 0) (o2:ab lh 2=k2) (o3:ab lh 3=k3) (fk:ab lh 35=pL) (cN:ab lh 37=⟨1,.cells (fg O U V c F W H X Y Z (fD J K N .nilsl .nilsl .nilsl .nilsl nb)) 0 true⟩):
  ∃(cK:Fr) (aU:aE ah) (aX:List ah),D=some (.ext 6,⟨cK,aU,aX⟩)∧(ab aU 2=k2∧ab aU 3=k3∧ab aU 35=pL∧ ∃(R:List ah) (kn:List (Nat×Int)) (c1 c2 c3:T),aX=ee F (bA c.cs c.cs.length) kn R∧iT c.cs kn∧eh R 80 (gw J K N c1 c2 c3 .nilsl l1 l2 l3 (tf c 1 c.co.length) (tf c 2 c.co.length) (tf c 3 c.co.length) [])∧ab aU 37=⟨1,.cells (fg O U V c F W H X Y Z (fD J K N c1 c2 c3 .nilsl nb)) 0 true⟩)∧ ∀s,(bX (.loop jU)).contains s=false→aa cK s=aa fr s:=by
 obtain⟨e,r⟩:=nwc c F H c7 c9 i7 j7 i9 j9 I kN O U V W X Y Z nb J K N k2 k3 pL AW wS R0 l1 l2 l3 Lt fr lh sh fB h8 di Lu IF IG o2 o3 fk cN
 exact⟨_,_,_,hD.symm.trans e,r,fun s hs=>fV e s hs⟩
theorem aCn{fr:Fr}{lh:aE ah}{sh:List ah}{D:Option (Out×St)}(c:Ct)(F H:T)(c7 ti:List T)(i7:IsSl F c.cs.length c7)(j7:cW c.cs c7)(W:IsSl H c.cr.length ti)(ye:cw c.cr ti)(I:c.cr.length≤40)(kN: ∀u∈c.cr,IE c.cs 1 u)(X Y Z a8 a9 aA az nb J K N O U V:T)(k2 k3 pL:ah)(AW:List (Nat×Int))(wS:iT c.cs AW)(R0:List ah)(l1 l2 l3 q1 q2 q3:RL)(Lt:eh R0 80 (gw J K N O U V .nilsl l1 l2 l3 q1 q2 q3 []))(hD:DC pE 232 (.loop je) ⟨fr,lh,sh⟩=D)(fB:sh=ee F (bA c.cs c.cs.length) AW R0)
  (h8:aa fr 8= .ptr .L 37 1 0) (di:aa fr 14= .ptr .S 2 1 0) (E5:aa fr 156=H) (Cb:aa fr 157= .i .i64 (c.cr.length:Int)) (II:aa fr 158= .i .i64 0) (o2:ab lh 2=k2) (o3:ab lh 3=k3) (fk:ab lh 35=pL) (cN:ab lh 37=⟨1,.cells (fg X Y Z c F a8 a9 H aA az (fD J K N O U V .nilsl nb)) 0 true⟩):
  ∃(cK:Fr) (aU:aE ah) (aX:List ah),D=some (.ext 8,⟨cK,aU,aX⟩)∧(ab aU 2=k2∧ab aU 3=k3∧ab aU 35=pL∧ ∃(R:List ah) (kn:List (Nat×Int)) (cr:T),aX=ee F (bA c.cs c.cs.length) kn R∧iT c.cs kn∧eh R 120 (gw J K N O U V cr l1 l2 l3 q1 q2 q3 (RO c c.cr.length))∧ab aU 37=⟨1,.cells (fg X Y Z c F a8 a9 H aA az (fD J K N O U V cr nb)) 0 true⟩)∧ ∀s,(bX (.loop je)).contains s=false→aa cK s=aa fr s:=by
 obtain⟨e,r⟩:=nwd c F H c7 ti i7 j7 W ye I kN X Y Z a8 a9 aA az nb J K N O U V k2 k3 pL AW wS R0 l1 l2 l3 q1 q2 q3 Lt fr lh sh fB h8 di E5 Cb II o2 o3 fk cN
 exact⟨_,_,_,hD.symm.trans e,r,fun s hs=>fV e s hs⟩
theorem awN{fr:Fr}{lh:aE ah}{sh:List ah}{D:Option (Out×St)}(c:Ct)(H V W X Y Z zT aT fT I F J K N O cr:T)(m:List (List Nat×Nat))(kn:List (Nat×Int))(W6:Bool)(R0:List ah)(l1 l2 l3 e1 e2 e3 er:RL)(Lt:sQ R0 (gw I F J K N O cr l1 l2 l3 e1 e2 e3 er))(U:Nat)(B5:(F= .nilsl∧U=0)∨ ∃i g,F= .isl .S (i+7) g 0 U 4)(B4:U≤1000)(k2 k3 pL:ah)(hD:DC pE 232 (.loop jd) ⟨fr,lh,sh⟩=D)(fB:sh=ee H m kn R0)
  (h8:aa fr 8= .ptr .L 37 1 0) (hl:aa fr 181= .i .i64 (U:Int)) (hi:aa fr 182= .i .i64 0) (o2:ab lh 2=k2) (o3:ab lh 3=k3) (fk:ab lh 35=pL) (cN:ab lh 37=⟨1,.cells (fg zT aT fT c H V W X Y Z (fD I F J K N O cr (.b W6))) 0 true⟩):
  ∃(cK:Fr) (aU:aE ah) (aX:List ah),D=some (.ext 10,⟨cK,aU,aX⟩)∧(ab aU 2=k2∧ab aU 3=k3∧ab aU 35=pL∧ ∃(R:List ah) (nb:Bool),aX=ee H m kn R∧sQ R (gw I F J K N O cr l1 l2 l3 e1 e2 e3 er)∧ab aU 37=⟨1,.cells (fg zT aT fT c H V W X Y Z (fD I F J K N O cr (.b nb))) 0 true⟩)∧ ∀s,(bX (.loop jd)).contains s=false→aa cK s=aa fr s:=by
 obtain⟨e,r⟩:=aCf c H V W X Y Z zT aT fT I F J K N O cr m kn W6 R0 l1 l2 l3 e1 e2 e3 er Lt U B5 B4 k2 k3 pL fr lh sh fB h8 hl hi o2 o3 fk cN
 exact⟨_,_,_,hD.symm.trans e,r,fun s hs=>fV e s hs⟩
theorem awO{fr:Fr}{lh:aE ah}{sh:List ah}{D:Option (Out×St)}(c:Ct)(H V W X Y Z zT aT fT I J K N F O cr:T)(m:List (List Nat×Nat))(kn:List (Nat×Int))(W6:Bool)(R0:List ah)(l1 l2 l3 e1 e2 e3 er:RL)(Lt:sQ R0 (gw I J K N F O cr l1 l2 l3 e1 e2 e3 er))(U:Nat)(B5:(F= .nilsl∧U=0)∨ ∃i g,F= .isl .S (i+7) g 0 U 3)(B4:U≤1000)(k2 k3 pL:ah)(hD:DC pE 232 (.loop jc) ⟨fr,lh,sh⟩=D)(fB:sh=ee H m kn R0)
  (h8:aa fr 8= .ptr .L 37 1 0) (hl:aa fr 209= .i .i64 (U:Int)) (hi:aa fr 210= .i .i64 0) (o2:ab lh 2=k2) (o3:ab lh 3=k3) (fk:ab lh 35=pL) (cN:ab lh 37=⟨1,.cells (fg zT aT fT c H V W X Y Z (fD I J K N F O cr (.b W6))) 0 true⟩):
  ∃(cK:Fr) (aU:aE ah) (aX:List ah),D=some (.ext 12,⟨cK,aU,aX⟩)∧(ab aU 2=k2∧ab aU 3=k3∧ab aU 35=pL∧ ∃(R:List ah) (nb:Bool),aX=ee H m kn R∧sQ R (gw I J K N F O cr l1 l2 l3 e1 e2 e3 er)∧ab aU 37=⟨1,.cells (fg zT aT fT c H V W X Y Z (fD I J K N F O cr (.b nb))) 0 true⟩)∧ ∀s,(bX (.loop jc)).contains s=false→aa cK s=aa fr s:=by
 obtain⟨e,r⟩:=aCi c H V W X Y Z zT aT fT I J K N F O cr m kn W6 R0 l1 l2 l3 e1 e2 e3 er Lt U B5 B4 k2 k3 pL fr lh sh fB h8 hl hi o2 o3 fk cN
 exact⟨_,_,_,hD.symm.trans e,r,fun s hs=>fV e s hs⟩
end Go.Proofs.YtnkgnjecmfkcfaaGreat
