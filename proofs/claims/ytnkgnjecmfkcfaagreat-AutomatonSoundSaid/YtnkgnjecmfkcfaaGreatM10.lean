/- Walks, plain laws (10). Conditions: the theorems' own. -/
import Derived.Test.YtnkgnjecmfkcfaaGreatM9
set_option maxRecDepth 100000
set_option linter.all false
set_option maxHeartbeats 16000000
namespace Go.Proofs.YtnkgnjecmfkcfaaGreat
open Go Go.Ev
def CI(sz:Nat):T→Bool
 | .sl ps 1 _=>decide (ps.length=sz∧0<sz)
 |_=>false
def Ft(sz:Nat):T→Bool
 | .nilsl=>true
 | .isl .S _ _ 0 _ r=>decide (r=sz)
 |_=>false
def P7(sh:List ah)(k bytes g len sz:Nat)(ps:List T)(e:ah):Option (T×List ah):=match e.ob with
 | .cells cs r false=>if e.g=g∧len*sz=cs.length∧(len+1)*bytes≤roomy then some (.isl .S k (g+1) 0 (len+1) sz,bI sh k ⟨g+1,.cells (cs++ps) r false⟩)else none
 |_=>none
def ao6(sh:List ah)(bytes sz:Nat):T→T→Option (T×List ah)
 | .nilsl,.sl ps 1 _=>if bytes≤roomy then some (.isl .S sh.length 1 0 1 sz,bI sh sh.length ⟨1,.cells ps 0 false⟩)else none
 | .isl .S k g 0 len _,.sl ps 1 _=>P7 sh k bytes g len sz ps (aI sh k)
 |_,_=>none
theorem be{sz:Nat}{ps:List T}{ex:Bool}:CI sz (.sl ps 1 ex)=decide (ps.length=sz∧0<sz):=nr rfl
theorem cR{sz:Nat}:Ft sz .nilsl=true:=nr rfl
theorem dJ{k g len sz r:Nat}:Ft sz (.isl .S k g 0 len r)=decide (r=sz):=nr rfl
theorem dn{sh:List ah}{bytes sz:Nat}{ps:List T}{ex:Bool}:ao6 sh bytes sz .nilsl (.sl ps 1 ex)=if bytes≤roomy then some (.isl .S sh.length 1 0 1 sz,bI sh sh.length ⟨1,.cells ps 0 false⟩)else none:=nr rfl
theorem ew{sh:List ah}{k g len bytes sz r:Nat}{ps:List T}{ex:Bool}:ao6 sh bytes sz (.isl .S k g 0 len r) (.sl ps 1 ex)=P7 sh k bytes g len sz ps (aI sh k):=nr rfl
theorem cE{sh:List ah}{k g r len bytes D sz:Nat}{ps:List T}{cs:List T}:P7 sh k bytes g len sz ps ⟨r,.cells cs D false⟩=if r=g∧len*sz=cs.length∧(len+1)*bytes≤roomy then some (.isl .S k (g+1) 0 (len+1) sz,bI sh k ⟨g+1,.cells (cs++ps) D false⟩)else none:=nr rfl
def Fu{sz:Nat}{t:T}(h:CI sz t=true): ∃ps ex,t= .sl ps 1 ex∧ps.length=sz∧0<sz:=by
 unfold CI at h
 grind
def KC{sz:Nat}{t:T}(h:Ft sz t=true):t= .nilsl∨ ∃k g len,t= .isl .S k g 0 len sz:=by
 unfold Ft at h
 grind
section
variable{E:Env}{call:ku}{n:Nat}{fr:Fr}{lh:aE ah}{sh:List ah}{ds:List (List Nat×aG)}{bu:List FP}{d:Option Nat}{os:List aG}
theorem cO{F sz bytes:Nat}{s x:aV}(N:F<n)(hx:CI sz (rd fr x)=true)(hs:Ft sz (rd fr s)=true):aj E call n (⟨some F,.app sz bytes s x true false,none⟩::os) ⟨fr,lh,sh⟩=
  (ao6 sh bytes sz (rd fr s) (rd fr x)).bind fun q=>aj E call n os ⟨cN fr F q.1,lh,q.2⟩:=by
 obtain⟨ps,ex,hx,V,O⟩:=Fu hx
 have r:ps.length=1*sz:=zV
 rw[lA (by rfl) (show D3 n (some F)from N)]
 unfold Ev.one
 rcases KC hs with hs|⟨k,g,len,hs⟩
 ·simp only[bB,kq,bz,hs,hx,cu,r,if_true,Q.run,Option.bind_some,dn]
  simp only[Nat.succ_ne_zero,if_false,Nat.one_mul]
  by_cases D:bytes≤roomy
  ·simp only[if_pos D,jE,Q.run,if_true];rfl
  ·simp only[if_neg D,Q.run];rfl
 ·have H:(St.mk fr lh sh).get .S k=aI sh k:=rfl
  rw[hs,hx,ew]
  generalize W:aI sh k=e at*
  obtain⟨U,ob⟩:=e
  unfold P7
  simp only[bB,kq,bz,hs,hx,cu,r,if_true,Q.run,Option.bind_some]
  simp only[Nat.succ_ne_zero,if_false,decide_true,Bool.true_and,decide_eq_true_eq]
  by_cases D:(len+1)*bytes≤roomy
  ·simp only[Q.run,H,if_true,D,and_true]
   by_cases I:U=g
   ·subst I
    simp only[if_true,true_and]
    cases ob with
    |none=>simp only[Q.run];rfl
    |map _ _ _=>simp only[Q.run];rfl
    |cells cs J bx=>
     cases bx with
     |true=>simp only[Q.run];rfl
     |false=>
      simp only[]
      by_cases K:len*sz=cs.length
      ·simp only[if_pos K,Q.run];rfl
      ·simp only[if_neg K,Q.run];rfl
   ·simp only[Q.run,I,false_and,if_false]
    cases ob with
    |none=>rfl
    |map _ _ _=>rfl
    |cells cs J bx=>cases bx <;> rfl
  ·simp only[D,if_false,Q.run,and_false]
   cases ob with
   |none=>rfl
   |map _ _ _=>rfl
   |cells cs J bx=>cases bx <;> rfl
def nl(n:Nat):T→FP
 | .isl .S k _ _ _ _=>⟨false,[(.S,k)],[(.S,k)]⟩
 |_=>⟨true,[],[(.S,n)]⟩
theorem bX{rs r:List (Sp×Nat)}{m:Nat}{t:T}(h1:Iu rs=true)(h2:Iu r=true):apart ⟨false,rs,r⟩ (nl m t)=true:=by
 have q: ∀(xs:List (Sp×Nat)) (k:Nat),Iu xs=true→(xs.all fun x=> !([(Sp.S,k)]:List (Sp×Nat)).contains x)=true:=by
  intro xs k h
  rw[List.all_eq_true]
  intro x hx
  have:=List.all_eq_true.1 h x hx
  grind
 have D: ∀(xs:List (Sp×Nat)),(xs.all fun x=> !([]:List (Sp×Nat)).contains x)=true:=by intro xs;rw[List.all_eq_true];intro x _;rfl
 unfold nl
 split
 ·unfold apart eM
  rw[q r _ h2,q rs _ h1];rfl
 ·unfold apart eM
  dsimp only
  rw[q r _ h2,q rs _ h1,D,h1,h2];rfl
theorem db{u:List Nat}{F sz bytes:Nat}{s x:aV}(hx:CI sz (rd fr x)=true)(hs:Ft sz (rd fr s)=true):aK E call n ((u,⟨some F,.app sz bytes s x true false,none⟩)::ds) bu ⟨fr,lh,sh⟩=
  if meets u bu (nl sh.length (rd fr s))=true then ke E call n ds (bu++ [nl sh.length (rd fr s)]) (aj E call n [⟨some F,.app sz bytes s x true false,none⟩] ⟨fr,lh,sh⟩)else none:=by
 refine nN fun H=> ?_
 obtain⟨ps,ex,hx,J,K⟩:=Fu hx
 have N:cu sz (rd fr x)= .ret (1,ps):=by rw[hx];simp only[cu,Nat.one_mul,J,if_true]
 obtain⟨v,O,hr,r⟩:=qy (q:=kq F sz bytes (rd fr s) (rd fr x) true false) (by rfl) (by rw[dw];rfl) H
 unfold kq at hr r
 rw[N]at hr r
 simp only[Q.bind,Nat.one_ne_zero,if_false]at hr r
 rcases KC hs with hs|⟨k,g,len,hs⟩
 ·rw[hs]at hr r ⊢
  simp only at hr r
  by_cases D:1*bytes≤roomy
  ·rw[if_pos D]at hr r
   simp only[jE,if_true,Q.run,Option.some.injEq,BB.val.injEq]at hr
   obtain⟨rfl,rfl⟩:=hr
   rw[r (by simp[jE,Q.asks])]
   rfl
  ·rw[if_neg D]at hr
   simp[Q.run]at hr
 ·rw[hs]at hr r ⊢
  simp only[decide_true,Bool.true_and,decide_eq_true_eq]at hr r
  by_cases D:(len+1)*bytes≤roomy
  ·rw[if_pos (by simp[D])]at hr r
   simp only[Q.run]at hr
   generalize I:(St.mk fr lh sh).get .S k=e at hr r
   obtain⟨W,ob⟩:=e
   simp only at hr
   split at hr
   ·rename_i U
    cases ob with
    |none=>simp[Q.run]at hr
    |map a b c=>simp[Q.run]at hr
    |cells Mn X bx=>
     cases bx with
     |true=>simp[Q.run]at hr
     |false=>
      simp only at hr
      split at hr
      ·rename_i V
       simp only[Q.run,Option.some.injEq,BB.val.injEq]at hr
       obtain⟨rfl,rfl⟩:=hr
       rw[r (by simp[inB,zq,I])]
       simp only[Q.asks,Q.log,I,U,V,if_true,cW,List.map_cons,List.map_nil,nl]
      ·simp[Q.run]at hr
   ·simp[Q.run]at hr
  ·rw[if_neg (by simp[D])]at hr
   simp[Q.run]at hr
end
mutual
def Fm.us(p:Int):Fm→Bool
 | .mk op num args=>if op=6 then decide (num=p)else usL p args
def usL(p:Int):List Fm→Bool
 | []=>false
 |x::xs=>x.us p||usL p xs
end
theorem Fm.us_eq(p:Int)(x:Fm):x.us p=if x.op=6 then decide (x.num=p)else usL p x.args:=by obtain⟨_,_,_⟩:=x;rw[Fm.us];rfl
theorem KD: ∀xs:List Fm,xs.length≤uh xs
 | []=>by simp[uh]
 |x::xs=>by
  have h1:=KD xs
  have h2:=x.sz_eq
  rw[uh,List.length_cons];omega
mutual
theorem AF(r:List Nat→Int)(scope:Int): ∀x:Ex,(comp r scope x).sz≤x.nodes
 | .mk op num name args=>by
   have h:=KE r scope args
   rw[Ex.nodes_eq,nn]
   show Fm.sz (if op=1∨op=2∨op=3 then .mk 1 num []else if op=4 then .mk 1 1 []else if op=5 then .mk 1 0 []else if op=6 then(match Ag scope name with|some i=> .mk 6 (i:Int) []|none=> .mk 1 (r name) [])else .mk op 0 (eA r scope args))≤1+gm args
   have l: ∀(a b:Int),Fm.sz (.mk a b [])≤1+gm args:=fun a b=>by rw[Fm.sz_eq];show 1+uh []≤_;rw[uh];omega
   split
   ·exact l _ _
   split
   ·exact l _ _
   split
   ·exact l _ _
   split
   ·split <;> exact l _ _
   ·rw[Fm.sz_eq];show 1+uh (eA r scope args)≤_;omega
theorem KE(r:List Nat→Int)(scope:Int): ∀xs:List Ex,uh (eA r scope xs)≤gm xs
 | []=>by rw[eA,uh,gm];exact Nat.le_refl _
 |x::xs=>by
  have h1:=AF r scope x
  have h2:=KE r scope xs
  rw[eA,uh,gm];omega
end
section
variable(p:Int)
def usP(f:Fm):Prop:= ∀(b:T) (D r:List T),IsSl b f.args.length D→bf f.args D→f.sz≤100000→ae pE 74 [.vp (qi f.op:: qi f.num::b::r),qi p] []=some (.b (f.us p),[])
def JL(op num:Int)(N:List T)(xs:List Fm)(ih: ∀y∈xs,usP p y)(a:T)(O:List T)(W:IsSl a xs.length O)(hx:bf xs O)(hn:uh xs≤100000)(r:Bool)(hr:r=usL p xs)(o:Out)(U:o=if r then .ret else .ext 0)(fr:Fr)(lh:aE ah)(sh:List ah)
  (h0:aa fr 0= .vp (qi op:: qi num::a::N)) (h1:aa fr 1= qi p) (D:aa fr 21= qi (xs.length:Int)) (Iz:aa fr 22= qi 0):
  qz 34 tP fr lh sh o∧
  ((r=true→aa (nM pE 34 tP fr lh sh) 4= .b true)∧je pE 34 tP fr lh sh=sh):=by
 refine cq (P:=fun X aN Y=>(r=true→aa X 4= .b true)∧Y=sh)
  (cY (fun k st=> ∃(fr:Fr) (K:aE ah),st=⟨fr,K,sh⟩∧r=usL p (xs.drop k)∧aa fr 0= .vp (qi op:: qi num::a::N)∧aa fr 1= qi p∧aa fr 21= qi (xs.length:Int)∧aa fr 22= qi (k:Int)) _ xs.length ?_ ?_ 0 _ (Nat.zero_le _) ⟨fr,lh,rfl,hr,h0,h1,D,Iz⟩)
 ·rintro k _ hk ⟨fr,K,rfl,hr,h0,h1,D,Iz⟩
  have F:(k:Int)<xs.length:=zV
  have V:=KD xs
  have Z:=CJ (List.getElem_mem hk)
  have hw:=bn (k:=k) (iu zV)
  obtain⟨b,cb,r2,H,fg,sH⟩:=aap W hx k hk
  have I:=ih xs[k] (List.getElem_mem hk) b cb r2 fg sH zV
  rw[List.drop_eq_getElem_cons hk,usL]at hr
  generalize xs[k]=y at*
  cases J:y.us p with
  |true=>
   right
   rw[J]at I
   rw[J,Bool.true_or]at hr
   simp only[qA,seval,tP,h0,h1,D,Iz,F,H,I,axT]
   refine⟨_,_,ad8,rfl,by rw[U,hr];rfl,fun _=> ?_,rfl⟩
   simp only[qA,seval]
  |false=>
   left
   rw[J]at I
   rw[J,Bool.false_or]at hr
   simp only[qA,seval,tP,h0,h1,D,Iz,F,H,I,axT,hw]
   refine⟨_,rfl,_,_,rfl,hr, ?_, ?_, ?_, ?_⟩ <;> simp only[qA,seval,h0,h1,D]
 ·rintro _ ⟨fr,K,rfl,hr,h0,h1,D,Iz⟩
  rw[List.drop_length,usL]at hr
  simp only[qA,seval,tP,D,Iz,Int.lt_irrefl]
  exact⟨_,_,tS,rfl,by rw[U,hr];rfl,fun h=>(by rw[hr]at h;cases h),rfl⟩
def alo(f:Fm):usP p f:=by
 induction f using Fm.ind with
 |h f ih=>
  intro b J r F U0 K
  rw[au anb (by simp[c74]),Fm.us_eq]
  have hs:=f.sz_eq
  by_cases h6:f.op=6
  ·simp only[qA,seval,c74,h6]
  ·have D:=fun fr lh sh h0 h1 H Iz=>JL p f.op f.num r f.args (fun y N=>ih y N) b J F U0 zV _ rfl _ rfl fr lh sh h0 h1 H Iz
   rw[if_neg h6]
   cases I:usL p f.args with
   |true=>
    rw[I]at D
    simp only[qA,seval,c74,h6,F.lenI,D]
   |false=>
    rw[I]at D
    simp only[qA,seval,c74,h6,F.lenI,D]
end
theorem cG(R:List ah)(i j:Nat)(e:ah):aI (bI R i e) j=if j=i then e else aI R j:=oc _ _ _ _ _
theorem cS: ∀(R:List ah) (i:Nat) (a b:ah),bI (bI R i a) i b=bI R i b
 | [],0,a,b=>rfl
 | [],i+1,a,b=>by
   have:=cS [] i a b
   grind [bI,nI]
 |x::R,0,a,b=>rfl
 |x::R,i+1,a,b=>by simp_all[sF,cS]
theorem yz: ∀(R:List ah) (e:ah),(bI R R.length e).length=R.length+1
 | [],e=>rfl
 |x::R,e=>by simp_all[List.length_cons,sF,yz]
section
variable(lT:T)(m:List (List Nat×Nat))(kn:List (Nat×Int))(R:List ah)
theorem Fv(i:Nat):aI (eJ lT m kn R) (i+7)=aI R i:=nr rfl
theorem oC(i:Nat)(e:ah):bI (eJ lT m kn R) (i+7) e=eJ lT m kn (bI R i e):=nr rfl
theorem Fw:(eJ lT m kn R).length=R.length+7:=nr (by unfold eJ;rw[List.length_append];show 7+R.length=_;omega)
end
def RlR(u:List Nat×Fm)(c:List T):Prop:= ∃r,c= .s u.1::r∧jv u.2 r
theorem RlR.len(u:List Nat×Fm)(c:List T)(h:RlR u c):c.length=4:=by obtain⟨r,rfl,h⟩:=h;rw[List.length_cons,h.len]
abbrev RL:=List (List Nat×Fm)
def xx(sz:Nat)(l:RL)(cs:List T):Prop:=(if sz=4 then aD RlR l cs else bf (l.map Prod.snd) cs)∧ ∀u∈l,u.2.sz≤1000
theorem xx.sz{sz:Nat}{l:RL}{cs:List T}(h:xx sz l cs){u:List Nat×Fm}(r:u.2.sz≤1000): ∀v∈l++ [u],v.2.sz≤1000:=fun v hv=>by
 rcases List.mem_append.1 hv with hv|hv
 ·exact h.2 v hv
 ·grind
def xx.app4{l:RL}{cs:List T}(h:xx 4 l cs)(u:List Nat×Fm)(c:List T)(hc:RlR u c)(r:u.2.sz≤1000):xx 4 (l++ [u]) (cs++c):=by
 refine⟨?_,h.sz r⟩
 have h1:=h.1
 rw[if_pos rfl]at h1 ⊢
 exact aD.append h1 (aD.one hc)
def xx.app3{l:RL}{cs:List T}(h:xx 3 l cs)(u:List Nat×Fm)(c:List T)(hc:jv u.2 c)(r:u.2.sz≤1000):xx 3 (l++ [u]) (cs++c):=by
 refine⟨?_,h.sz r⟩
 have h1:=h.1
 rw[if_neg zz]at h1 ⊢
 rw[List.map_append]
 exact bf.append h1 (bf.one hc)
def xx.nil(sz:Nat):xx sz [] []:=by
 refine⟨?_,by simp⟩
 split
 ·rfl
 ·exact bf.nil
def RwK(R:List ah)(B:Nat)(p:Nat×T×RL):Prop:=(p.2.1= .nilsl∧p.2.2= [])∨ ∃i g n cs,p.2.1= .isl .S (i+7) g 0 n p.1∧aI R i=⟨g,.cells cs 0 false⟩∧i<R.length∧n*p.1=cs.length∧n≤B∧xx p.1 p.2.2 cs
def kyZ:T→Option Nat
 | .isl .S k _ _ _ _=>some k
 |_=>none
theorem lN{k g o n s:Nat}:kyZ (.isl .S k g o n s)=some k:=rfl
def eK(R:List ah)(B:Nat)(r:List (Nat×T×RL)):Prop:=(∀p∈r,RwK R B p)∧ ∀i j:Nat,∀(hi:i<r.length) (D:j<r.length),i≠j→kyZ r[i].2.1=none∨kyZ r[i].2.1≠kyZ r[j].2.1
theorem RwK.mono{R:List ah}{B B':Nat}{p:Nat×T×RL}(h:RwK R B p)(r:B≤B'):RwK R B' p:=by
 rcases h with h|⟨i,g,n,cs,h1,h2,h3,h4,h5,h6⟩
 ·exact .inl h
 ·exact .inr ⟨i,g,n,cs,h1,h2,h3,h4,by omega,h6⟩
theorem eK.mono{R:List ah}{B B':Nat}{r:List (Nat×T×RL)}(h:eK R B r)(D:B≤B'):eK R B' r:=⟨fun p F=>(h.1 p F).mono D,h.2⟩
def eK.new{R:List ah}{B:Nat}{r:List (Nat×T×RL)}(h:eK R B r)(K:1≤B)(j:Nat)(V:j<r.length){sz:Nat}(N:r[j].1=sz)(ps:List T)(O:ps.length=sz)(l:RL)(U:xx sz l ps):
  eK (bI R R.length ⟨1,.cells ps 0 false⟩) B (r.set j (sz,.isl .S (R.length+7) 1 0 1 sz,l)):=by
 have F: ∀p∈r,RwK (bI R R.length ⟨1,.cells ps 0 false⟩) B p∧kyZ p.2.1≠some (R.length+7):=by
  intro p D
  rcases h.1 p D with h1|⟨i,g,n,cs,h1,h2,h3,h4,h5,h6⟩
  ·exact⟨.inl h1,by rw[h1.1];simp[kyZ]⟩
  ·refine⟨.inr ⟨i,g,n,cs,h1, ?_, ?_,h4,h5,h6⟩,by rw[h1,lN];simp;omega⟩
   ·grind [cG]
   ·rw[yz];omega
 refine⟨fun p D=> ?_,fun a b H J I=> ?_⟩
 ·rcases List.mem_or_eq_of_mem_set D with D|rfl
  ·grind
  ·exact .inr ⟨R.length,1,1,ps,rfl,by rw[cG,if_pos rfl],by rw[yz];omega,by simp[O],K,U⟩
 ·rw[List.length_set]at H J
  rw[List.getElem_set,List.getElem_set]
  by_cases h1:j=a
  ·grind [lN]
  ·rw[if_neg h1]
   by_cases h2:j=b
   ·rw[if_pos h2]
    right
    rw[lN]
    exact(F r[a] (List.getElem_mem H)).2
   ·rw[if_neg h2];exact h.2 a b H J I
theorem eK.app{R:List ah}{B:Nat}{D:List (Nat×T×RL)}(h:eK R B D)(j:Nat)(H:j<D.length){sz i g n:Nat}{cs:List T}(O:D[j].1=sz)(I:D[j].2.1= .isl .S (i+7) g 0 n sz)(Y:aI R i=⟨g,.cells cs 0 false⟩)(hi:i<R.length)(U:n*sz=cs.length)(Z:n≤B)(ps:List T)(V:ps.length=sz)(l:RL)(W:xx sz l (cs++ps))(F:Nat):
  eK (bI R i ⟨F,.cells (cs++ps) 0 false⟩) (B+1) (D.set j (sz,.isl .S (i+7) F 0 (n+1) sz,l)):=by
 have N:(bI R i ⟨F,.cells (cs++ps) 0 false⟩).length=R.length:=kz _ _ _ hi
 refine⟨fun p X=> ?_,fun a b r J K=> ?_⟩
 ·obtain⟨a,r,rfl⟩:=List.getElem_of_mem X
  rw[List.length_set]at r
  rw[List.getElem_set]
  by_cases h1:j=a
  ·rw[if_pos h1]
   exact .inr ⟨i,F,n+1,cs++ps,rfl,by rw[cG,if_pos rfl],by rw[N];exact hi,by rw[List.length_append,V,Nat.add_mul,U,Nat.one_mul],by omega,W⟩
  ·rw[if_neg h1]
   have hd:=h.2 j a H r h1
   rw[I,lN]at hd
   rcases h.1 D[a] (List.getElem_mem r)with q|⟨i',g2,n',Mn,q1,q2,q3,q4,q5,q6⟩
   ·exact .inl q
   ·refine .inr ⟨i',g2,n',Mn,q1, ?_,by rw[N];exact q3,q4,by omega,q6⟩
    rw[q1,lN]at hd
    rw[cG,if_neg (fun e=>by subst e;rcases hd with hd|hd <;> simp at hd)]
    exact q2
 ·rw[List.length_set]at r J
  rw[List.getElem_set,List.getElem_set]
  by_cases h1:j=a
  ·rw[if_pos h1,if_neg zV]
   have:=h.2 j b H J zV
   rw[I,lN]at this
   rw[lN];exact this
  ·rw[if_neg h1]
   by_cases h2:j=b
   ·rw[if_pos h2]
    have:=h.2 a j r H zV
    rw[I,lN]at this
    rw[lN];exact this
   ·rw[if_neg h2];exact h.2 a b r J K
theorem CM{α β:Type}[DecidableEq α]{s:α}: ∀{m:List (α×β)},s∉m.map Prod.fst→aP m s=none
 | [],_=>rfl
 |p::m,h=>by
  rw[List.map_cons,List.mem_cons,not_or]at h
  rw[aP,if_neg h.1,CM h.2]
theorem DG.fz{z:Zo}{c:List T}(h:DG z c):c.all froz1=true∧c.length=3:=by
 obtain⟨a,r,rfl,h1,_⟩:=h
 exact⟨by simp[h1.froz1,GS,wq],rfl⟩
def NH(r:List Zo)(m:List (List Nat×List T)):Prop:= ∀p∈m,∃z∈r,z.nm=p.1∧DG z p.2
def P8{l:List (List Nat)}(r:l.Nodup){k:Nat}(hk:k<l.length):l[k]∉l.take k:=by
 intro D
 obtain⟨j,F,e⟩:=List.getElem_of_mem D
 rw[List.length_take]at F
 rw[List.getElem_take]at e
 exact List.pairwise_iff_getElem.1 r j k zV hk zV e
def nwz(l:List Zo)(Z:(l.map Zo.nm).Nodup)(a:T)(cc:List T)(ha:IsSl a l.length cc)(hc:aD DG l cc)(hlen:l.length≤100)(W X Bg O3:ah)(fr:Fr)(lh:aE ah)(sh:List ah)
  (J:aa fr 9= .mp .L 38 1) (D:aa fr 40=a) (r:aa fr 41= qi (l.length:Int)) (F:aa fr 42= qi 0) (K:ab lh 2=W) (N:ab lh 3=X) (O:ab lh 35=Bg) (U:ab lh 37=O3) (KF:ab lh 38=⟨1,.map [] [] false⟩):
  qz 232 jO fr lh sh (.ext 0)∧
  (ab (iL pE 232 jO fr lh sh) 2=W∧ab (iL pE 232 jO fr lh sh) 3=X∧ab (iL pE 232 jO fr lh sh) 35=Bg∧ab (iL pE 232 jO fr lh sh) 37=O3∧(∃m,ab (iL pE 232 jO fr lh sh) 38=⟨1,.map (m.map fun p=>sK p.1) (m.map fun p=>T.agg p.2) false⟩∧NH l m∧m.map Prod.fst=l.map Zo.nm)∧je pE 232 jO fr lh sh=sh):=by
 refine cq (P:=fun bL aN aR=>ab aN 2=W∧ab aN 3=X∧ab aN 35=Bg∧ab aN 37=O3∧(∃m,ab aN 38=⟨1,.map (m.map fun p=>sK p.1) (m.map fun p=>T.agg p.2) false⟩∧NH l m∧m.map Prod.fst=l.map Zo.nm)∧aR=sh)
  (cY (fun k st=> ∃(fr:Fr) (H:aE ah) (m:List (List Nat×List T)),st=⟨fr,H,sh⟩∧m.map Prod.fst=(l.map Zo.nm).take k∧NH l m∧aa fr 9= .mp .L 38 1∧aa fr 40=a∧aa fr 41= qi (l.length:Int)∧aa fr 42= qi (k:Int)∧ab H 2=W∧ab H 3=X∧ab H 35=Bg∧ab H 37=O3∧ab H 38=⟨1,.map (m.map fun p=>sK p.1) (m.map fun p=>T.agg p.2) false⟩) _ l.length ?_ ?_ 0 _ (Nat.zero_le _) ⟨fr,lh,[],rfl,by simp,(fun p hp=>by cases hp),J,D,r,F,K,N,O,U,KF⟩)
 ·rintro k _ hk ⟨fr,H,m,rfl,Y,I,J,D,r,F,K,N,O,U,KF⟩
  left
  have hk':(k:Int)<l.length:=zV
  have hw:=aF (k:=k) zV
  obtain⟨V,sc,rr,hia,tn,Iw⟩:=KG ha hc k hk
  have TL:k<(l.map Zo.nm).length:=by simpa using hk
  have Af:aP m l[k].nm=none:=CM (by rw[Y];have:=P8 Z TL;rwa [List.getElem_map]at this)
  have jo:l8 (.one .str) (.s l[k].nm) (.agg [.s l[k].nm,qi l[k].o,V]) (m.map fun p=>sK p.1) (m.map fun p=>T.agg p.2)=_:=wz (kT:=sK) (vT:=T.agg) D7 m l[k].nm [.s l[k].nm,qi l[k].o,V] Af
  have hzr: ∃z∈l,z.nm=l[k].nm∧DG z [.s l[k].nm,qi l[k].o,V]:=⟨l[k],List.getElem_mem hk,rfl,V,sc,rfl,tn,Iw⟩
  have aar:(l.map Zo.nm).take (k+1)=(l.map Zo.nm).take k++ [l[k].nm]:=by rw[List.take_succ_eq_append_getElem TL,List.getElem_map]
  rw[aar]
  generalize l[k]=z at*
  simp only[qA,seval,jO,J,D,r,F,KF,hk',hia,hw,pJ,zP,jo,tn.froz1]
  refine⟨_,rfl,_,_,m++ [(z.nm,[.s z.nm,qi z.o,V])],rfl, ?_, ?_, ?_, ?_, ?_, ?_, ?_, ?_, ?_, ?_, ?_⟩
  ·rw[List.map_append,Y];rfl
  ·intro p hp
   rcases List.mem_append.1 hp with hp|hp
   ·exact I p hp
   ·rw[List.mem_singleton.1 hp];exact hzr
  all_goals (simp only[qA,seval,J,D,r,K,N,O,U])
 ·rintro _ ⟨fr,H,m,rfl,Y,I,J,D,r,F,K,N,O,U,KF⟩
  simp only[qA,seval,jO,r,F,Int.lt_irrefl]
  exact⟨_,_,tS,rfl,rfl,K,N,O,U,⟨m,KF,I,by rw[Y,List.take_of_length_le yv]⟩,rfl⟩
def fE(r D F:T)(c:Ct)(H I J K N O:T)(U:List T):List T:=r::D::F::(aO c H I J K N O++ .mp .L 35 1::U)
theorem wK{α β:Type}[DecidableEq α]{s:α}{v:β}: ∀{m:List (α×β)},aP m s=some v→(s,v)∈m
 | [],h=>by cases h
 |p::m,h=>by
  rw[aP]at h
  split at h
  ·rename_i e;injection h with h;subst h;rw[e];exact List.mem_cons_self ..
  ·exact List.mem_cons_of_mem _ (wK h)
theorem yA{α β:Type}[DecidableEq α]{s:α}: ∀{m:List (α×β)},s∈m.map Prod.fst→ ∃v,aP m s=some v
 | [],h=>by cases h
 |p::m,h=>by
  rw[aP]
  split
  ·exact⟨_,rfl⟩
  ·rename_i e
   rw[List.map_cons,List.mem_cons]at h
   rcases h with h|h
   ·exact absurd h e
   ·exact yA h
def TM(r:List Zo)(D:List Ap)(q:List (List Nat×List T)):Prop:= ∀p∈q,∃u∈D,u.cd=p.1∧ ∃z∈r,z.nm=u.zn∧DG z p.2
def agS{r:List Zo}{m:List (List Nat×List T)}(F:NH r m)(H:m.map Prod.fst=r.map Zo.nm)(s:List Nat)(hs:s∈r.map Zo.nm): ∃v,(∃z∈r,z.nm=s∧DG z v)∧iN (.one .str) (m.map fun p=>sK p.1) (m.map fun p=>T.agg p.2) (.s s) (.agg [.s [],qi 0,.nilsl]) false=some (.agg v)∧v.all froz1=true∧v.length=3:=by
 have D:=P3 (kT:=sK) (vT:=T.agg) D7 (fun _=>rfl) m s (.agg [.s [],qi 0,.nilsl])
 obtain⟨v,h⟩:=yA (by rw[H];exact hs)
 rw[h]at D
 obtain⟨z,h1,h2,h3⟩:=F _ (wK h)
 exact⟨v,⟨z,h1,h2,h3⟩,D,h3.fz⟩
def nwa(l:List Ap)(hnd:(l.map Ap.cd).Nodup)(a:T)(cc:List T)(ha:IsSl a l.length cc)(hc:aD NI l cc)(hlen:l.length≤100)(F:List Zo)(m:List (List Nat×List T))(I:NH F m∧m.map Prod.fst=F.map Zo.nm)(hzn: ∀u∈l,u.zn∈F.map Zo.nm)(V W X:T)(c:Ct)(Y Z a9 aw aA az:T)(vs:List T)(c2 c3:ah)(fr:Fr)(lh:aE ah)(sh:List ah)
  (J:aa fr 8= .ptr .L 37 1 0) (K:aa fr 9= .mp .L 38 1) (U1:aa fr 52=a) (Fx:aa fr 53= qi (l.length:Int)) (IA:aa fr 54= qi 0) (N:ab lh 2=c2) (O:ab lh 3=c3) (U:ab lh 35=⟨1,.map [] [] false⟩) (r:ab lh 37=⟨1,.cells (fE V W X c Y Z a9 aw aA az vs) 0 true⟩) (KF:ab lh 38=⟨1,.map (m.map fun p=>sK p.1) (m.map fun p=>T.agg p.2) false⟩):
  qz 232 kY fr lh sh (.ext 2)∧
  (ab (iL pE 232 kY fr lh sh) 2=c2∧ab (iL pE 232 kY fr lh sh) 3=c3∧ab (iL pE 232 kY fr lh sh) 37=⟨1,.cells (fE V W X c Y Z a9 aw aA az vs) 0 true⟩∧(∃q,ab (iL pE 232 kY fr lh sh) 35=⟨1,.map (q.map fun p=>sK p.1) (q.map fun p=>T.agg p.2) false⟩∧TM F l q∧q.map Prod.fst=l.map Ap.cd)∧je pE 232 kY fr lh sh=sh):=by
 refine cq (P:=fun bL aN aR=>ab aN 2=c2∧ab aN 3=c3∧ab aN 37=⟨1,.cells (fE V W X c Y Z a9 aw aA az vs) 0 true⟩∧(∃q,ab aN 35=⟨1,.map (q.map fun p=>sK p.1) (q.map fun p=>T.agg p.2) false⟩∧TM F l q∧q.map Prod.fst=l.map Ap.cd)∧aR=sh)
  (cY (fun k st=> ∃(fr:Fr) (D:aE ah) (q:List (List Nat×List T)),st=⟨fr,D,sh⟩∧q.map Prod.fst=(l.map Ap.cd).take k∧TM F l q∧aa fr 8= .ptr .L 37 1 0∧aa fr 9= .mp .L 38 1∧aa fr 52=a∧aa fr 53= qi (l.length:Int)∧aa fr 54= qi (k:Int)∧ab D 2=c2∧ab D 3=c3∧ab D 37=⟨1,.cells (fE V W X c Y Z a9 aw aA az vs) 0 true⟩∧ab D 38=⟨1,.map (m.map fun p=>sK p.1) (m.map fun p=>T.agg p.2) false⟩∧ab D 35=⟨1,.map (q.map fun p=>sK p.1) (q.map fun p=>T.agg p.2) false⟩) _ l.length ?_ ?_ 0 _ (Nat.zero_le _) ⟨fr,lh,[],rfl,by simp,(fun p hp=>by cases hp),J,K,U1,Fx,IA,N,O,r,KF,U⟩)
 ·rintro k _ hk ⟨fr,D,q,rfl,hq,H,J,K,U1,Fx,IA,N,O,r,KF,U⟩
  left
  have hk':(k:Int)<l.length:=zV
  have hw:=aF (k:=k) zV
  obtain⟨rr,hia⟩:=KH ha hc k hk
  have TL:k<(l.map Ap.cd).length:=by simpa using hk
  have Af:aP q l[k].cd=none:=CM (by rw[hq];have:=P8 hnd TL;rwa [List.getElem_map]at this)
  obtain⟨v,hzv,fq,yh,UT⟩:=agS I.1 I.2 l[k].zn (hzn _ (List.getElem_mem hk))
  have hqv: ∃u∈l,u.cd=l[k].cd∧ ∃z∈F,z.nm=u.zn∧DG z v:=⟨l[k],List.getElem_mem hk,rfl,hzv⟩
  have jo:l8 (.one .str) (.s l[k].cd) (.agg v) (q.map fun p=>sK p.1) (q.map fun p=>T.agg p.2)=_:=wz (kT:=sK) (vT:=T.agg) D7 q l[k].cd v Af
  have aar:(l.map Ap.cd).take (k+1)=(l.map Ap.cd).take k++ [l[k].cd]:=by rw[List.take_succ_eq_append_getElem TL,List.getElem_map]
  rw[aar]
  generalize l[k]=z at*
  unfold fE aO at r ⊢
  simp only[List.cons_append,List.nil_append]at r ⊢
  simp only[qA,seval,bg,aH,kY,J,K,U1,Fx,IA,U,r,KF,hk',hia,hw,bZ,fq,yh,pJ,zP,jo]
  refine⟨_,rfl,_,_,q++ [(z.cd,v)],rfl, ?_, ?_, ?_, ?_, ?_, ?_, ?_, ?_, ?_, ?_, ?_, ?_⟩
  ·rw[List.map_append,hq];rfl
  ·intro p hp
   rcases List.mem_append.1 hp with hp|hp
   ·exact H p hp
   ·rw[List.mem_singleton.1 hp];exact hqv
  all_goals (simp only[qA,seval,J,K,U1,Fx,N,O,r,KF])
 ·rintro _ ⟨fr,D,q,rfl,hq,H,J,K,U1,Fx,IA,N,O,r,KF,U⟩
  simp only[qA,seval,kY,Fx,IA,Int.lt_irrefl]
  exact⟨_,_,tS,rfl,rfl,N,O,r,⟨q,U,H,by rw[hq,List.take_of_length_le yv]⟩,rfl⟩
def aas{n:Nat}(h:n≤1000):(n+1)*56≤roomy:=by unfold roomy;omega
def ao9:56≤roomy:=by unfold roomy;omega
def fU(r D F H I J cr K:T):List T:= [.nilsl,r,D,F,.nilsl,H,I,J,cr,K]
def iF(r D F H I J cr:T)(K N O U V W X:RL):List (Nat×T×RL):= [(4,r,K),(4,D,N),(4,F,O),(3,H,U),(3,I,V),(3,J,W),(3,cr,X)]
def uD(c:Ct)(j:Int)(k:Nat):RL:=((c.ru.take k).filter fun u=>u.sc==j).map fun u=>(u.nm,comp (fI c.cs) u.sc u.x)
def tC(c:Ct)(j:Int)(k:Nat):RL:=((c.co.take k).filter fun u=>u.sc==j).map fun u=>([],comp (fI c.cs) u.sc u.x)
def TN(c:Ct)(k:Nat):RL:=(c.cr.take k).map fun u=>([],comp (fI c.cs) 1 u)
def CN(c:Ct)(j:Int){k:Nat}(hk:k<c.ru.length):uD c j (k+1)=if c.ru[k].sc=j then uD c j k++ [(c.ru[k].nm,comp (fI c.cs) c.ru[k].sc c.ru[k].x)]else uD c j k:=by
 grind [uD,List.take_succ_eq_append_getElem]
theorem wL(c:Ct)(j:Int){k:Nat}(hk:k<c.co.length):tC c j (k+1)=if c.co[k].sc=j then tC c j k++ [([],comp (fI c.cs) c.co[k].sc c.co[k].x)]else tC c j k:=by
 grind [tC,List.take_succ_eq_append_getElem]
def aat(c:Ct){k:Nat}(hk:k<c.cr.length):TN c (k+1)=TN c k++ [([],comp (fI c.cs) 1 c.cr[k])]:=by
 grind [TN,List.take_succ_eq_append_getElem]
def aHH:eK [] 0 (iF .nilsl .nilsl .nilsl .nilsl .nilsl .nilsl .nilsl [] [] [] [] [] [] []):=by
 have r: ∀p∈iF .nilsl .nilsl .nilsl .nilsl .nilsl .nilsl .nilsl [] [] [] [] [] [] [],p.2=(.nilsl,[]):=by
  simp_all[iF,List.mem_cons,List.not_mem_nil]
 exact⟨fun p D=> .inl (by rw[r p D];exact⟨rfl,rfl⟩),fun i j hi F _=> .inl (by rw[r _ (List.getElem_mem hi)];rfl)⟩
def KI(l:Cs)(r:Int)(x:Ex):Prop:=(r=1∨r=2∨r=3)∧bM x=0∧ ∃k,x.ty (He l) r=(k,0)
def nwr(c:Ct)(U a8:T)(c7 c8:List T)(i7:IsSl U c.cs.length c7)(j7:dc c.cs c7)(i8:IsSl a8 c.ru.length c8)(j8:aD U2 c.ru c8)(hlen:c.ru.length≤40)(iR: ∀u∈c.ru,KI c.cs u.sc u.x)(zT aT fT a9 aw aA az nb:T)(c2 c3 Bg:ah)(CP:List (Nat×Int))(yB:jC c.cs CP)(fr:Fr)(lh:aE ah)(sh:List ah)(fx:sh=eJ U (bE c.cs c.cs.length) CP [])
  (I:aa fr 8= .ptr .L 37 1 0) (J:aa fr 14= .ptr .S 2 1 0) (Fy:aa fr 73=a8) (DH:aa fr 74= qi (c.ru.length:Int)) (P9:aa fr 75= qi 0) (X:ab lh 2=c2) (Y:ab lh 3=c3) (Z:ab lh 35=Bg) (O:ab lh 37=⟨1,.cells (fE zT aT fT c U a8 a9 aw aA az (fU .nilsl .nilsl .nilsl .nilsl .nilsl .nilsl .nilsl nb)) 0 true⟩):
  qz 232 fV fr lh sh (.ext 4)∧
  (ab (iL pE 232 fV fr lh sh) 2=c2∧ab (iL pE 232 fV fr lh sh) 3=c3∧ab (iL pE 232 fV fr lh sh) 35=Bg∧ ∃(R:List ah) (kn:List (Nat×Int)) (D F H:T),je pE 232 fV fr lh sh=eJ U (bE c.cs c.cs.length) kn R∧jC c.cs kn∧eK R 40 (iF D F H .nilsl .nilsl .nilsl .nilsl (uD c 1 c.ru.length) (uD c 2 c.ru.length) (uD c 3 c.ru.length) [] [] [] [])∧ab (iL pE 232 fV fr lh sh) 37=⟨1,.cells (fE zT aT fT c U a8 a9 aw aA az (fU D F H .nilsl .nilsl .nilsl .nilsl nb)) 0 true⟩):=by
 refine cq (P:=fun bL aN aR=>ab aN 2=c2∧ab aN 3=c3∧ab aN 35=Bg∧ ∃(R:List ah) (kn:List (Nat×Int)) (D F H:T),aR=eJ U (bE c.cs c.cs.length) kn R∧jC c.cs kn∧eK R 40 (iF D F H .nilsl .nilsl .nilsl .nilsl (uD c 1 c.ru.length) (uD c 2 c.ru.length) (uD c 3 c.ru.length) [] [] [] [])∧ab aN 37=⟨1,.cells (fE zT aT fT c U a8 a9 aw aA az (fU D F H .nilsl .nilsl .nilsl .nilsl nb)) 0 true⟩)
  (cY (fun k st=> ∃(fr:Fr) (dY:aE ah) (R:List ah) (kn:List (Nat×Int)) (D F H:T),st=⟨fr,dY,eJ U (bE c.cs c.cs.length) kn R⟩∧jC c.cs kn∧eK R k (iF D F H .nilsl .nilsl .nilsl .nilsl (uD c 1 k) (uD c 2 k) (uD c 3 k) [] [] [] [])∧aa fr 8= .ptr .L 37 1 0∧aa fr 14= .ptr .S 2 1 0∧aa fr 73=a8∧aa fr 74= qi (c.ru.length:Int)∧aa fr 75= qi (k:Int)∧ab dY 2=c2∧ab dY 3=c3∧ab dY 35=Bg∧ab dY 37=⟨1,.cells (fE zT aT fT c U a8 a9 aw aA az (fU D F H .nilsl .nilsl .nilsl .nilsl nb)) 0 true⟩) _ c.ru.length ?_ ?_ 0 _ (Nat.zero_le _) ⟨fr,lh,[],CP,.nilsl,.nilsl,.nilsl,by rw[fx],yB,aHH,I,J,Fy,DH,P9,X,Y,Z,O⟩)
 ·rintro k _ hk ⟨fr,dY,R,kn,D,F,H,rfl,jH,V,I,J,Fy,DH,P9,X,Y,Z,O⟩
  left
  have N:(k:Int)<c.ru.length:=zV
  have hw:=aF (k:=k) zV
  obtain⟨b,cb,rr,K,fg,hb⟩:=zR i8 j8 k hk
  obtain⟨fw,hval,t,hty⟩:=iR c.ru[k] (List.getElem_mem hk)
  have CQ:=(iS hval).1
  obtain⟨cf,cM,aC,ym,jD,_⟩:=Hf c.cs U R c.cs.length (Nat.le_refl _) (Hg c.cs U R c7 i7 j7) c.ru[k].sc (.inr fw) c.ru[k].x t kn _ jH hb CQ (iG hval) (by rw[yC];exact hty)
  have hsz:=AF (fI c.cs) c.ru[k].sc c.ru[k].x
  have s1:=CN c 1 hk
  have s2:=CN c 2 hk
  have s3:=CN c 3 hk
  generalize c.ru[k]=u at*
  generalize comp (fI c.cs) u.sc u.x=y at*
  obtain⟨r,fc,rfl,CA,hf2⟩:=ym.cells
  have Ix:RlR (u.nm,y) [.s u.nm,qi y.op,qi y.num,r]:=⟨_,rfl,ym⟩
  have wM:xx 4 [(u.nm,y)] [.s u.nm,qi y.op,qi y.num,r]:=by
   have:=(xx.nil 4).app4 (u.nm,y) _ Ix (by show y.sz≤1000;omega)
   grind
  have DI:=ao9
  have aN7:k≤40:=zV
  unfold fE aO fU at O ⊢
  simp only[List.cons_append,List.nil_append]at O ⊢
  rcases fw with fw|fw|fw <;> rw[fw]at K aC
  ·have W:=V.1 (4,D,uD c 1 k) (by simp[iF])
   rw[if_pos fw]at s1
   rw[if_neg (by rw[fw];decide)]at s2 s3
   rcases W with⟨hnil,xw⟩|⟨i,g,n,cs,hv,hE,hi,hn,hB,hfz⟩
   ·simp only at hnil xw
    subst hnil
    rw[xw,List.nil_append]at s1
    have oD:=(V.mono (Nat.le_succ k)).new zV 0 (by simp[iF]) (sz:=4) rfl [.s u.nm,qi y.op,qi y.num,r] rfl _ wM
    simp only[qA,seval,eY,repl,bg,aH,fS,dA,fV,I,J,Fy,DH,P9,O,N,K,hw,aC,mH,nH,fg.kept1,CA.froz1,cO,db,be,cR,bX,dn,oC,Fw,DI]
    refine⟨_,rfl,_,_,bI R R.length ⟨1,.cells [.s u.nm,qi y.op,qi y.num,r] 0 false⟩,cM,.isl .S (R.length+7) 1 0 1 4,F,H,rfl,jD,(by rw[s1,s2,s3];exact oD), ?_, ?_, ?_, ?_, ?_, ?_, ?_, ?_, ?_⟩
    all_goals (simp only[qA,seval,I,J,Fy,DH,X,Y,Z])
   ·simp only at hv
    subst hv
    have pQ:=V.app 0 (by simp[iF]) (sz:=4) rfl rfl hE hi hn hB [.s u.nm,qi y.op,qi y.num,r] rfl _ (hfz.app4 (u.nm,y) [.s u.nm,qi y.op,qi y.num,r] Ix (by show y.sz≤1000;omega)) (g+1)
    have sY:(n+1)*56≤roomy:=aas zV
    simp only[qA,seval,eY,repl,bg,aH,fS,dA,fV,I,J,Fy,DH,P9,O,N,K,hw,aC,mH,nH,fg.kept1,CA.froz1,cO,db,be,dJ,bX,ew,cE,Fv,oC,Fw,hE,hn,sY]
    refine⟨_,rfl,_,_,bI R i ⟨g+1,.cells (cs++ [.s u.nm,qi y.op,qi y.num,r]) 0 false⟩,cM,.isl .S (i+7) (g+1) 0 (n+1) 4,F,H,rfl,jD,(by rw[s1,s2,s3];exact pQ), ?_, ?_, ?_, ?_, ?_, ?_, ?_, ?_, ?_⟩
    all_goals (simp only[qA,seval,I,J,Fy,DH,X,Y,Z])
  ·have W:=V.1 (4,F,uD c 2 k) (by simp[iF])
   rw[if_pos fw]at s2
   rw[if_neg (by rw[fw];decide)]at s1 s3
   rcases W with⟨hnil,xw⟩|⟨i,g,n,cs,hv,hE,hi,hn,hB,hfz⟩
   ·simp only at hnil xw
    subst hnil
    rw[xw,List.nil_append]at s2
    have oD:=(V.mono (Nat.le_succ k)).new zV 1 (by simp[iF]) (sz:=4) rfl [.s u.nm,qi y.op,qi y.num,r] rfl _ wM
    simp only[qA,seval,eY,repl,bg,aH,fS,dA,fV,I,J,Fy,DH,P9,O,N,K,hw,aC,mH,nH,fg.kept1,CA.froz1,cO,db,be,cR,bX,dn,oC,Fw,DI]
    refine⟨_,rfl,_,_,bI R R.length ⟨1,.cells [.s u.nm,qi y.op,qi y.num,r] 0 false⟩,cM,D,.isl .S (R.length+7) 1 0 1 4,H,rfl,jD,(by rw[s1,s2,s3];exact oD), ?_, ?_, ?_, ?_, ?_, ?_, ?_, ?_, ?_⟩
    all_goals (simp only[qA,seval,I,J,Fy,DH,X,Y,Z])
   ·simp only at hv
    subst hv
    have pQ:=V.app 1 (by simp[iF]) (sz:=4) rfl rfl hE hi hn hB [.s u.nm,qi y.op,qi y.num,r] rfl _ (hfz.app4 (u.nm,y) [.s u.nm,qi y.op,qi y.num,r] Ix (by show y.sz≤1000;omega)) (g+1)
    have sY:(n+1)*56≤roomy:=aas zV
    simp only[qA,seval,eY,repl,bg,aH,fS,dA,fV,I,J,Fy,DH,P9,O,N,K,hw,aC,mH,nH,fg.kept1,CA.froz1,cO,db,be,dJ,bX,ew,cE,Fv,oC,Fw,hE,hn,sY]
    refine⟨_,rfl,_,_,bI R i ⟨g+1,.cells (cs++ [.s u.nm,qi y.op,qi y.num,r]) 0 false⟩,cM,D,.isl .S (i+7) (g+1) 0 (n+1) 4,H,rfl,jD,(by rw[s1,s2,s3];exact pQ), ?_, ?_, ?_, ?_, ?_, ?_, ?_, ?_, ?_⟩
    all_goals (simp only[qA,seval,I,J,Fy,DH,X,Y,Z])
  ·have W:=V.1 (4,H,uD c 3 k) (by simp[iF])
   rw[if_pos fw]at s3
   rw[if_neg (by rw[fw];decide)]at s1 s2
   rcases W with⟨hnil,xw⟩|⟨i,g,n,cs,hv,hE,hi,hn,hB,hfz⟩
   ·simp only at hnil xw
    subst hnil
    rw[xw,List.nil_append]at s3
    have oD:=(V.mono (Nat.le_succ k)).new zV 2 (by simp[iF]) (sz:=4) rfl [.s u.nm,qi y.op,qi y.num,r] rfl _ wM
    simp only[qA,seval,eY,repl,bg,aH,fS,dA,fV,I,J,Fy,DH,P9,O,N,K,hw,aC,mH,nH,fg.kept1,CA.froz1,cO,db,be,cR,bX,dn,oC,Fw,DI]
    refine⟨_,rfl,_,_,bI R R.length ⟨1,.cells [.s u.nm,qi y.op,qi y.num,r] 0 false⟩,cM,D,F,.isl .S (R.length+7) 1 0 1 4,rfl,jD,(by rw[s1,s2,s3];exact oD), ?_, ?_, ?_, ?_, ?_, ?_, ?_, ?_, ?_⟩
    all_goals (simp only[qA,seval,I,J,Fy,DH,X,Y,Z])
   ·simp only at hv
    subst hv
    have pQ:=V.app 2 (by simp[iF]) (sz:=4) rfl rfl hE hi hn hB [.s u.nm,qi y.op,qi y.num,r] rfl _ (hfz.app4 (u.nm,y) [.s u.nm,qi y.op,qi y.num,r] Ix (by show y.sz≤1000;omega)) (g+1)
    have sY:(n+1)*56≤roomy:=aas zV
    simp only[qA,seval,eY,repl,bg,aH,fS,dA,fV,I,J,Fy,DH,P9,O,N,K,hw,aC,mH,nH,fg.kept1,CA.froz1,cO,db,be,dJ,bX,ew,cE,Fv,oC,Fw,hE,hn,sY]
    refine⟨_,rfl,_,_,bI R i ⟨g+1,.cells (cs++ [.s u.nm,qi y.op,qi y.num,r]) 0 false⟩,cM,D,F,.isl .S (i+7) (g+1) 0 (n+1) 4,rfl,jD,(by rw[s1,s2,s3];exact pQ), ?_, ?_, ?_, ?_, ?_, ?_, ?_, ?_, ?_⟩
    all_goals (simp only[qA,seval,I,J,Fy,DH,X,Y,Z])
 ·rintro _ ⟨fr,dY,R,kn,D,F,H,rfl,jH,V,I,J,Fy,DH,P9,X,Y,Z,O⟩
  simp only[qA,seval,fV,DH,P9,Int.lt_irrefl]
  exact⟨_,_,tS,rfl,rfl,X,Y,Z,R,kn,D,F,H,rfl,jH,V.mono zV,O⟩
def Hh:40≤roomy:=by unfold roomy;omega
def AG{n:Nat}(h:n≤1000):(n+1)*40≤roomy:=by unfold roomy;omega
theorem pR{a b c x y z:T}:splice [a,b,c] 0 [x,y,z]= [x,y,z]:=rfl
theorem gp{a b c x y z:T}: ∀(cs:List T),splice (cs++ [a,b,c]) cs.length [x,y,z]=cs++ [x,y,z]
 | []=>rfl
 |u::cs=>by rw[List.cons_append,List.cons_append,List.length_cons,splice,gp cs]
theorem pS{cs:List T}{a b c:T}:(cs++ [a,b,c]).length=cs.length+3:=yv
def aBE(c:Ct)(r U V W X Y Z aT fT nb r1 r2 r3 c2 c3:T)(m:List (List Nat×Nat))(kn cM:List (Nat×Int))(R:List ah)(x:Ex)(b:T)(y:Fm)(F:T)(ui:Nat)(fr:Fr)(lh:aE ah)
  (U3:froz1 b=true) (AH:kept1 b=true) (D:froz1 F=true) (Cf:kept1 F=true)
  (aC:ae pE 73 [.ptr .S 2 1 0,qi 1,.agg [qi x.op,qi x.num,.s x.name,b]] (eJ r m kn R)=some (.agg [qi y.op,qi y.num,F],eJ r m cM R))
  (h8:aa fr 8= .ptr .L 37 1 0) (cV:aa fr 14= .ptr .S 2 1 0) (ft:aa fr 18= .ptr .L 18 ui 0) (AI:ab lh 18=⟨ui,.cells [qi 1,qi x.op,qi x.num,.s x.name,b] 0 true⟩) (H:ab lh 37=⟨1,.cells (fE Z aT fT c r U V W X Y (fU r1 r2 r3 (.nilsl) c2 c3 .nilsl nb)) 0 true⟩) (I:ak) (J:I=ni bH∨I=nj bH):
  ∃f1 K,DC pE 232 I ⟨fr,lh,eJ r m kn R⟩=some (.nrm,⟨f1,K,eJ r m cM (bI R R.length ⟨1,.cells [qi y.op,qi y.num,F] 0 false⟩)⟩)∧(∀k,(bO bH).contains k=false→k≠37→ab K k=ab lh k)∧ab K 37=⟨1,.cells (fE Z aT fT c r U V W X Y (fU r1 r2 r3 (.isl .S (R.length+7) 1 0 1 3) c2 c3 .nilsl nb)) 0 true⟩:=by
 have DI:=Hh
 unfold fE aO fU at H ⊢
 simp only[List.cons_append,List.nil_append]at H ⊢
 rcases J with rfl|rfl
 ·
  simp only[qA,seval,eY,repl,bg,aH,fS,eO,dA,bH,ni,h8,cV,ft,AI,H,aC,mH,nH,AH,D,cO,db,be,cR,bX,dn,Fv,oC,Fw,DI,cG,cS,pR,Nat.lt_succ_self]
  refine⟨_,_,rfl, ?_, ?_⟩
  ·intro k hk N
   have O:k≠111:=by rintro rfl;exact absurd hk zz
   repeat (first|rw[bq _ _ N]|rw[bq _ _ O])
  ·simp only[qA,seval]
 ·
  simp only[qA,seval,eY,repl,bg,aH,fS,eO,dA,bH,nj,h8,cV,ft,AI,H,aC,mH,nH,AH,D,cO,db,be,cR,bX,dn,Fv,oC,Fw,DI,cG,cS,pR,Nat.lt_succ_self]
  refine⟨_,_,rfl, ?_, ?_⟩
  ·intro k hk N
   have O:k≠111:=by rintro rfl;exact absurd hk zz
   repeat (first|rw[bq _ _ N]|rw[bq _ _ O])
  ·simp only[qA,seval]
def aBF(c:Ct)(r U V W X Y Z aT fT nb r1 r2 r3 c2 c3:T)(m:List (List Nat×Nat))(kn cM:List (Nat×Int))(R:List ah)(x:Ex)(b:T)(y:Fm)(F:T)(ui:Nat)(i g n:Nat)(cs:List T)(hE:aI R i=⟨g,.cells cs 0 false⟩)(hn:n*3=cs.length)(D1:n≤1000)(fr:Fr)(lh:aE ah)
  (U3:froz1 b=true) (AH:kept1 b=true) (D:froz1 F=true) (Cf:kept1 F=true)
  (aC:ae pE 73 [.ptr .S 2 1 0,qi 1,.agg [qi x.op,qi x.num,.s x.name,b]] (eJ r m kn R)=some (.agg [qi y.op,qi y.num,F],eJ r m cM R))
  (h8:aa fr 8= .ptr .L 37 1 0) (cV:aa fr 14= .ptr .S 2 1 0) (ft:aa fr 18= .ptr .L 18 ui 0) (AI:ab lh 18=⟨ui,.cells [qi 1,qi x.op,qi x.num,.s x.name,b] 0 true⟩) (H:ab lh 37=⟨1,.cells (fE Z aT fT c r U V W X Y (fU r1 r2 r3 (.isl .S (i+7) g 0 n 3) c2 c3 .nilsl nb)) 0 true⟩) (I:ak) (J:I=ni bH∨I=nj bH):
  ∃f1 K,DC pE 232 I ⟨fr,lh,eJ r m kn R⟩=some (.nrm,⟨f1,K,eJ r m cM (bI R i ⟨g+1,.cells (cs++ [qi y.op,qi y.num,F]) 0 false⟩)⟩)∧(∀k,(bO bH).contains k=false→k≠37→ab K k=ab lh k)∧ab K 37=⟨1,.cells (fE Z aT fT c r U V W X Y (fU r1 r2 r3 (.isl .S (i+7) (g+1) 0 (n+1) 3) c2 c3 .nilsl nb)) 0 true⟩:=by
 have sY:(n+1)*40≤roomy:=AG D1
 unfold fE aO fU at H ⊢
 simp only[List.cons_append,List.nil_append]at H ⊢
 rcases J with rfl|rfl
 ·
  simp only[qA,seval,eY,repl,bg,aH,fS,eO,dA,bH,ni,h8,cV,ft,AI,H,aC,mH,nH,AH,D,cO,db,be,dJ,bX,ew,cE,Fv,oC,Fw,cG,cS,gp,pS,Nat.lt_succ_self,hE,hn,sY]
  refine⟨_,_,rfl, ?_, ?_⟩
  ·intro k hk N
   have O:k≠111:=by rintro rfl;exact absurd hk zz
   repeat (first|rw[bq _ _ N]|rw[bq _ _ O])
  ·simp only[qA,seval]
 ·
  simp only[qA,seval,eY,repl,bg,aH,fS,eO,dA,bH,nj,h8,cV,ft,AI,H,aC,mH,nH,AH,D,cO,db,be,dJ,bX,ew,cE,Fv,oC,Fw,cG,cS,gp,pS,Nat.lt_succ_self,hE,hn,sY]
  refine⟨_,_,rfl, ?_, ?_⟩
  ·intro k hk N
   have O:k≠111:=by rintro rfl;exact absurd hk zz
   repeat (first|rw[bq _ _ N]|rw[bq _ _ O])
  ·simp only[qA,seval]
def aBG(c:Ct)(r U V W X Y Z aT fT nb r1 r2 r3 c1 c3:T)(m:List (List Nat×Nat))(kn cM:List (Nat×Int))(R:List ah)(x:Ex)(b:T)(y:Fm)(F:T)(ui:Nat)(fr:Fr)(lh:aE ah)
  (U3:froz1 b=true) (AH:kept1 b=true) (D:froz1 F=true) (Cf:kept1 F=true)
  (aC:ae pE 73 [.ptr .S 2 1 0,qi 2,.agg [qi x.op,qi x.num,.s x.name,b]] (eJ r m kn R)=some (.agg [qi y.op,qi y.num,F],eJ r m cM R))
  (h8:aa fr 8= .ptr .L 37 1 0) (cV:aa fr 14= .ptr .S 2 1 0) (ft:aa fr 18= .ptr .L 18 ui 0) (AI:ab lh 18=⟨ui,.cells [qi 2,qi x.op,qi x.num,.s x.name,b] 0 true⟩) (H:ab lh 37=⟨1,.cells (fE Z aT fT c r U V W X Y (fU r1 r2 r3 c1 (.nilsl) c3 .nilsl nb)) 0 true⟩) (I:ak) (J:I=ni bH∨I=nj bH):
  ∃f1 K,DC pE 232 I ⟨fr,lh,eJ r m kn R⟩=some (.nrm,⟨f1,K,eJ r m cM (bI R R.length ⟨1,.cells [qi y.op,qi y.num,F] 0 false⟩)⟩)∧(∀k,(bO bH).contains k=false→k≠37→ab K k=ab lh k)∧ab K 37=⟨1,.cells (fE Z aT fT c r U V W X Y (fU r1 r2 r3 c1 (.isl .S (R.length+7) 1 0 1 3) c3 .nilsl nb)) 0 true⟩:=by
 have DI:=Hh
 unfold fE aO fU at H ⊢
 simp only[List.cons_append,List.nil_append]at H ⊢
 rcases J with rfl|rfl
 ·
  simp only[qA,seval,eY,repl,bg,aH,fS,eO,dA,bH,ni,h8,cV,ft,AI,H,aC,mH,nH,AH,D,cO,db,be,cR,bX,dn,Fv,oC,Fw,DI,cG,cS,pR,Nat.lt_succ_self]
  refine⟨_,_,rfl, ?_, ?_⟩
  ·intro k hk N
   have O:k≠111:=by rintro rfl;exact absurd hk zz
   repeat (first|rw[bq _ _ N]|rw[bq _ _ O])
  ·simp only[qA,seval]
 ·
  simp only[qA,seval,eY,repl,bg,aH,fS,eO,dA,bH,nj,h8,cV,ft,AI,H,aC,mH,nH,AH,D,cO,db,be,cR,bX,dn,Fv,oC,Fw,DI,cG,cS,pR,Nat.lt_succ_self]
  refine⟨_,_,rfl, ?_, ?_⟩
  ·intro k hk N
   have O:k≠111:=by rintro rfl;exact absurd hk zz
   repeat (first|rw[bq _ _ N]|rw[bq _ _ O])
  ·simp only[qA,seval]
def aBH(c:Ct)(r U V W X Y Z aT fT nb r1 r2 r3 c1 c3:T)(m:List (List Nat×Nat))(kn cM:List (Nat×Int))(R:List ah)(x:Ex)(b:T)(y:Fm)(F:T)(ui:Nat)(i g n:Nat)(cs:List T)(hE:aI R i=⟨g,.cells cs 0 false⟩)(hn:n*3=cs.length)(D1:n≤1000)(fr:Fr)(lh:aE ah)
  (U3:froz1 b=true) (AH:kept1 b=true) (D:froz1 F=true) (Cf:kept1 F=true)
  (aC:ae pE 73 [.ptr .S 2 1 0,qi 2,.agg [qi x.op,qi x.num,.s x.name,b]] (eJ r m kn R)=some (.agg [qi y.op,qi y.num,F],eJ r m cM R))
  (h8:aa fr 8= .ptr .L 37 1 0) (cV:aa fr 14= .ptr .S 2 1 0) (ft:aa fr 18= .ptr .L 18 ui 0) (AI:ab lh 18=⟨ui,.cells [qi 2,qi x.op,qi x.num,.s x.name,b] 0 true⟩) (H:ab lh 37=⟨1,.cells (fE Z aT fT c r U V W X Y (fU r1 r2 r3 c1 (.isl .S (i+7) g 0 n 3) c3 .nilsl nb)) 0 true⟩) (I:ak) (J:I=ni bH∨I=nj bH):
  ∃f1 K,DC pE 232 I ⟨fr,lh,eJ r m kn R⟩=some (.nrm,⟨f1,K,eJ r m cM (bI R i ⟨g+1,.cells (cs++ [qi y.op,qi y.num,F]) 0 false⟩)⟩)∧(∀k,(bO bH).contains k=false→k≠37→ab K k=ab lh k)∧ab K 37=⟨1,.cells (fE Z aT fT c r U V W X Y (fU r1 r2 r3 c1 (.isl .S (i+7) (g+1) 0 (n+1) 3) c3 .nilsl nb)) 0 true⟩:=by
 have sY:(n+1)*40≤roomy:=AG D1
 unfold fE aO fU at H ⊢
 simp only[List.cons_append,List.nil_append]at H ⊢
 rcases J with rfl|rfl
 ·
  simp only[qA,seval,eY,repl,bg,aH,fS,eO,dA,bH,ni,h8,cV,ft,AI,H,aC,mH,nH,AH,D,cO,db,be,dJ,bX,ew,cE,Fv,oC,Fw,cG,cS,gp,pS,Nat.lt_succ_self,hE,hn,sY]
  refine⟨_,_,rfl, ?_, ?_⟩
  ·intro k hk N
   have O:k≠111:=by rintro rfl;exact absurd hk zz
   repeat (first|rw[bq _ _ N]|rw[bq _ _ O])
  ·simp only[qA,seval]
 ·
  simp only[qA,seval,eY,repl,bg,aH,fS,eO,dA,bH,nj,h8,cV,ft,AI,H,aC,mH,nH,AH,D,cO,db,be,dJ,bX,ew,cE,Fv,oC,Fw,cG,cS,gp,pS,Nat.lt_succ_self,hE,hn,sY]
  refine⟨_,_,rfl, ?_, ?_⟩
  ·intro k hk N
   have O:k≠111:=by rintro rfl;exact absurd hk zz
   repeat (first|rw[bq _ _ N]|rw[bq _ _ O])
  ·simp only[qA,seval]
def aBI(c:Ct)(r U V W X Y Z aT fT nb r1 r2 r3 c1 c2:T)(m:List (List Nat×Nat))(kn cM:List (Nat×Int))(R:List ah)(x:Ex)(b:T)(y:Fm)(F:T)(ui:Nat)(fr:Fr)(lh:aE ah)
  (U3:froz1 b=true) (AH:kept1 b=true) (D:froz1 F=true) (Cf:kept1 F=true)
  (aC:ae pE 73 [.ptr .S 2 1 0,qi 3,.agg [qi x.op,qi x.num,.s x.name,b]] (eJ r m kn R)=some (.agg [qi y.op,qi y.num,F],eJ r m cM R))
  (h8:aa fr 8= .ptr .L 37 1 0) (cV:aa fr 14= .ptr .S 2 1 0) (ft:aa fr 18= .ptr .L 18 ui 0) (AI:ab lh 18=⟨ui,.cells [qi 3,qi x.op,qi x.num,.s x.name,b] 0 true⟩) (H:ab lh 37=⟨1,.cells (fE Z aT fT c r U V W X Y (fU r1 r2 r3 c1 c2 (.nilsl) .nilsl nb)) 0 true⟩) (I:ak) (J:I=ni bH∨I=nj bH):
  ∃f1 K,DC pE 232 I ⟨fr,lh,eJ r m kn R⟩=some (.nrm,⟨f1,K,eJ r m cM (bI R R.length ⟨1,.cells [qi y.op,qi y.num,F] 0 false⟩)⟩)∧(∀k,(bO bH).contains k=false→k≠37→ab K k=ab lh k)∧ab K 37=⟨1,.cells (fE Z aT fT c r U V W X Y (fU r1 r2 r3 c1 c2 (.isl .S (R.length+7) 1 0 1 3) .nilsl nb)) 0 true⟩:=by
 have DI:=Hh
 unfold fE aO fU at H ⊢
 simp only[List.cons_append,List.nil_append]at H ⊢
 rcases J with rfl|rfl
 ·
  simp only[qA,seval,eY,repl,bg,aH,fS,eO,dA,bH,ni,h8,cV,ft,AI,H,aC,mH,nH,AH,D,cO,db,be,cR,bX,dn,Fv,oC,Fw,DI,cG,cS,pR,Nat.lt_succ_self]
  refine⟨_,_,rfl, ?_, ?_⟩
  ·intro k hk N
   have O:k≠111:=by rintro rfl;exact absurd hk zz
   repeat (first|rw[bq _ _ N]|rw[bq _ _ O])
  ·simp only[qA,seval]
 ·
  simp only[qA,seval,eY,repl,bg,aH,fS,eO,dA,bH,nj,h8,cV,ft,AI,H,aC,mH,nH,AH,D,cO,db,be,cR,bX,dn,Fv,oC,Fw,DI,cG,cS,pR,Nat.lt_succ_self]
  refine⟨_,_,rfl, ?_, ?_⟩
  ·intro k hk N
   have O:k≠111:=by rintro rfl;exact absurd hk zz
   repeat (first|rw[bq _ _ N]|rw[bq _ _ O])
  ·simp only[qA,seval]
def aBJ(c:Ct)(r U V W X Y Z aT fT nb r1 r2 r3 c1 c2:T)(m:List (List Nat×Nat))(kn cM:List (Nat×Int))(R:List ah)(x:Ex)(b:T)(y:Fm)(F:T)(ui:Nat)(i g n:Nat)(cs:List T)(hE:aI R i=⟨g,.cells cs 0 false⟩)(hn:n*3=cs.length)(D1:n≤1000)(fr:Fr)(lh:aE ah)
  (U3:froz1 b=true) (AH:kept1 b=true) (D:froz1 F=true) (Cf:kept1 F=true)
  (aC:ae pE 73 [.ptr .S 2 1 0,qi 3,.agg [qi x.op,qi x.num,.s x.name,b]] (eJ r m kn R)=some (.agg [qi y.op,qi y.num,F],eJ r m cM R))
  (h8:aa fr 8= .ptr .L 37 1 0) (cV:aa fr 14= .ptr .S 2 1 0) (ft:aa fr 18= .ptr .L 18 ui 0) (AI:ab lh 18=⟨ui,.cells [qi 3,qi x.op,qi x.num,.s x.name,b] 0 true⟩) (H:ab lh 37=⟨1,.cells (fE Z aT fT c r U V W X Y (fU r1 r2 r3 c1 c2 (.isl .S (i+7) g 0 n 3) .nilsl nb)) 0 true⟩) (I:ak) (J:I=ni bH∨I=nj bH):
  ∃f1 K,DC pE 232 I ⟨fr,lh,eJ r m kn R⟩=some (.nrm,⟨f1,K,eJ r m cM (bI R i ⟨g+1,.cells (cs++ [qi y.op,qi y.num,F]) 0 false⟩)⟩)∧(∀k,(bO bH).contains k=false→k≠37→ab K k=ab lh k)∧ab K 37=⟨1,.cells (fE Z aT fT c r U V W X Y (fU r1 r2 r3 c1 c2 (.isl .S (i+7) (g+1) 0 (n+1) 3) .nilsl nb)) 0 true⟩:=by
 have sY:(n+1)*40≤roomy:=AG D1
 unfold fE aO fU at H ⊢
 simp only[List.cons_append,List.nil_append]at H ⊢
 rcases J with rfl|rfl
 ·
  simp only[qA,seval,eY,repl,bg,aH,fS,eO,dA,bH,ni,h8,cV,ft,AI,H,aC,mH,nH,AH,D,cO,db,be,dJ,bX,ew,cE,Fv,oC,Fw,cG,cS,gp,pS,Nat.lt_succ_self,hE,hn,sY]
  refine⟨_,_,rfl, ?_, ?_⟩
  ·intro k hk N
   have O:k≠111:=by rintro rfl;exact absurd hk zz
   repeat (first|rw[bq _ _ N]|rw[bq _ _ O])
  ·simp only[qA,seval]
 ·
  simp only[qA,seval,eY,repl,bg,aH,fS,eO,dA,bH,nj,h8,cV,ft,AI,H,aC,mH,nH,AH,D,cO,db,be,dJ,bX,ew,cE,Fv,oC,Fw,cG,cS,gp,pS,Nat.lt_succ_self,hE,hn,sY]
  refine⟨_,_,rfl, ?_, ?_⟩
  ·intro k hk N
   have O:k≠111:=by rintro rfl;exact absurd hk zz
   repeat (first|rw[bq _ _ N]|rw[bq _ _ O])
  ·simp only[qA,seval]
def oE{fr:Fr}{lh:aE ah}{sh SH:List ah}{X:ah}(A: ∀F,(F=ni bH∨F=nj bH)→ ∃H r,DC pE 232 F ⟨fr,lh,sh⟩=some (.nrm,⟨H,r,SH⟩)∧(∀k,(bO bH).contains k=false→k≠37→ab r k=ab lh k)∧ab r 37=X):
  ∃D aN,DC pE 232 bH ⟨fr,lh,sh⟩=some (.nrm,⟨D,aN,SH⟩)∧(∀k,(bO bH).contains k=false→aa D k=aa fr k)∧(∀k,(bO bH).contains k=false→k≠37→ab aN k=ab lh k)∧ab aN 37=X:=by
 obtain⟨H,r,N,I,x1⟩:=A _ (.inl rfl)
 obtain⟨Y,Z,O,U,x2⟩:=A _ (.inr rfl)
 obtain⟨D,aN,V,W,J⟩:=agJ (by rfl) N O (fun k hk=>by
  by_cases h:k=37
  ·subst h;rw[x1,x2]
  ·rw[I k hk h,U k hk h])
 exact⟨D,aN,V,W,fun j K h=>(J j K).trans (I j K h),(J 37 zz).trans x1⟩
def aHI{fr:Fr}{lh:aE ah}{D:Option (Out×St)}(c:Ct)(I a8 a9 aw aA az zT aT fT nb X Y Z J K N:T)(m:List (List Nat×Nat))(kn cM:List (Nat×Int))(R:List ah)(x:Ex)(b:T)(y:Fm)(r:T)(ui:Nat)(sc:Int)(k:Nat)(fw:sc=1∨sc=2∨sc=3)(hk:k≤900)(l1 l2 l3 k1 k2 k3:RL)(lO:eK R k (iF X Y Z J K N .nilsl l1 l2 l3 k1 k2 k3 []))(hy:jv y [qi y.op,qi y.num,r])(hsz:y.sz≤1000)
  (U3:froz1 b=true) (AH:kept1 b=true) (H:froz1 r=true) (Cf:kept1 r=true)
  (aC:ae pE 73 [.ptr .S 2 1 0,qi sc,.agg [qi x.op,qi x.num,.s x.name,b]] (eJ I m kn R)=some (.agg [qi y.op,qi y.num,r],eJ I m cM R))
  (hD:DC pE 232 bH ⟨fr,lh,eJ I m kn R⟩=D)
  (h8:aa fr 8= .ptr .L 37 1 0) (cV:aa fr 14= .ptr .S 2 1 0) (ft:aa fr 18= .ptr .L 18 ui 0) (AI:ab lh 18=⟨ui,.cells [qi sc,qi x.op,qi x.num,.s x.name,b] 0 true⟩) (cP:ab lh 37=⟨1,.cells (fE zT aT fT c I a8 a9 aw aA az (fU X Y Z J K N .nilsl nb)) 0 true⟩):
  ∃F aN R' c1' c2' c3',D=some (.nrm,⟨F,aN,eJ I m cM R'⟩)∧eK R' (k+1) (iF X Y Z c1' c2' c3' .nilsl l1 l2 l3 (if sc=1 then k1++ [([],y)]else k1) (if sc=2 then k2++ [([],y)]else k2) (if sc=3 then k3++ [([],y)]else k3) [])∧(∀k,(bO bH).contains k=false→aa F k=aa fr k)∧(∀k,(bO bH).contains k=false→k≠37→ab aN k=ab lh k)∧ab aN 37=⟨1,.cells (fE zT aT fT c I a8 a9 aw aA az (fU X Y Z c1' c2' c3' .nilsl nb)) 0 true⟩:=by
 have wM:xx 3 [([],y)] [qi y.op,qi y.num,r]:=by
  have:=(xx.nil 3).app3 ([],y) _ hy hsz
  simpa using this
 rcases fw with rfl|rfl|rfl
 ·rcases lO.1 (3,J,k1) (by simp[iF])with⟨hnil,xw⟩|⟨i,g,n,cs,hv,hE,hi,hn,hB,aau⟩
  ·simp only at hnil xw
   subst hnil xw
   have oD:=(lO.mono (Nat.le_succ k)).new zV 3 (by simp[iF]) (sz:=3) rfl [qi y.op,qi y.num,r] rfl _ wM
   obtain⟨F,aN,O,U,V,W⟩:=oE (aBE c I a8 a9 aw aA az zT aT fT nb X Y Z K N m kn cM R x b y r ui fr lh U3 AH H Cf aC h8 cV ft AI cP)
   exact⟨F,aN,_,_,K,N,hD.symm.trans O,oD,U,V,W⟩
  ·simp only at hv
   subst hv
   have pQ:=lO.app 3 (by simp[iF]) (sz:=3) rfl rfl hE hi hn hB [qi y.op,qi y.num,r] rfl _ (aau.app3 ([],y) _ hy hsz) (g+1)
   obtain⟨F,aN,O,U,V,W⟩:=oE (aBF c I a8 a9 aw aA az zT aT fT nb X Y Z K N m kn cM R x b y r ui i g n cs hE hn zV fr lh U3 AH H Cf aC h8 cV ft AI cP)
   exact⟨F,aN,_,_,K,N,hD.symm.trans O,pQ,U,V,W⟩
 ·rcases lO.1 (3,K,k2) (by simp[iF])with⟨hnil,xw⟩|⟨i,g,n,cs,hv,hE,hi,hn,hB,aau⟩
  ·simp only at hnil xw
   subst hnil xw
   have oD:=(lO.mono (Nat.le_succ k)).new zV 4 (by simp[iF]) (sz:=3) rfl [qi y.op,qi y.num,r] rfl _ wM
   obtain⟨F,aN,O,U,V,W⟩:=oE (aBG c I a8 a9 aw aA az zT aT fT nb X Y Z J N m kn cM R x b y r ui fr lh U3 AH H Cf aC h8 cV ft AI cP)
   exact⟨F,aN,_,J,_,N,hD.symm.trans O,oD,U,V,W⟩
  ·simp only at hv
   subst hv
   have pQ:=lO.app 4 (by simp[iF]) (sz:=3) rfl rfl hE hi hn hB [qi y.op,qi y.num,r] rfl _ (aau.app3 ([],y) _ hy hsz) (g+1)
   obtain⟨F,aN,O,U,V,W⟩:=oE (aBH c I a8 a9 aw aA az zT aT fT nb X Y Z J N m kn cM R x b y r ui i g n cs hE hn zV fr lh U3 AH H Cf aC h8 cV ft AI cP)
   exact⟨F,aN,_,J,_,N,hD.symm.trans O,pQ,U,V,W⟩
 ·rcases lO.1 (3,N,k3) (by simp[iF])with⟨hnil,xw⟩|⟨i,g,n,cs,hv,hE,hi,hn,hB,aau⟩
  ·simp only at hnil xw
   subst hnil xw
   have oD:=(lO.mono (Nat.le_succ k)).new zV 5 (by simp[iF]) (sz:=3) rfl [qi y.op,qi y.num,r] rfl _ wM
   obtain⟨F,aN,O,U,V,W⟩:=oE (aBI c I a8 a9 aw aA az zT aT fT nb X Y Z J K m kn cM R x b y r ui fr lh U3 AH H Cf aC h8 cV ft AI cP)
   exact⟨F,aN,_,J,K,_,hD.symm.trans O,oD,U,V,W⟩
  ·simp only at hv
   subst hv
   have pQ:=lO.app 5 (by simp[iF]) (sz:=3) rfl rfl hE hi hn hB [qi y.op,qi y.num,r] rfl _ (aau.app3 ([],y) _ hy hsz) (g+1)
   obtain⟨F,aN,O,U,V,W⟩:=oE (aBJ c I a8 a9 aw aA az zT aT fT nb X Y Z J K m kn cM R x b y r ui i g n cs hE hn zV fr lh U3 AH H Cf aC h8 cV ft AI cP)
   exact⟨F,aN,_,J,K,_,hD.symm.trans O,pQ,U,V,W⟩
def nwc(c:Ct)(r J:T)(c7 c9:List T)(i7:IsSl r c.cs.length c7)(j7:dc c.cs c7)(i9:IsSl J c.co.length c9)(j9:aD CoR c.co c9)(hlen:c.co.length≤40)(iR: ∀u∈c.co,KI c.cs u.sc u.x)(X Y Z a8 aw aA az nb K N O:T)(k2 k3 qI:ah)(CP:List (Nat×Int))(yB:jC c.cs CP)(R0:List ah)(l1 l2 l3:RL)(IB:eK R0 40 (iF K N O .nilsl .nilsl .nilsl .nilsl l1 l2 l3 [] [] [] []))(fr:Fr)(lh:aE ah)(sh:List ah)(fx:sh=eJ r (bE c.cs c.cs.length) CP R0)
  (h8:aa fr 8= .ptr .L 37 1 0) (cV:aa fr 14= .ptr .S 2 1 0) (NJ:aa fr 105=J) (KJ:aa fr 106= qi (c.co.length:Int)) (KK:aa fr 107= qi 0) (o2:ab lh 2=k2) (o3:ab lh 3=k3) (fH:ab lh 35=qI) (cP:ab lh 37=⟨1,.cells (fE X Y Z c r a8 J aw aA az (fU K N O .nilsl .nilsl .nilsl .nilsl nb)) 0 true⟩):
  qz 232 kW fr lh sh (.ext 6)∧
  (ab (iL pE 232 kW fr lh sh) 2=k2∧ab (iL pE 232 kW fr lh sh) 3=k3∧ab (iL pE 232 kW fr lh sh) 35=qI∧ ∃(R:List ah) (kn:List (Nat×Int)) (F H I:T),je pE 232 kW fr lh sh=eJ r (bE c.cs c.cs.length) kn R∧jC c.cs kn∧eK R 80 (iF K N O F H I .nilsl l1 l2 l3 (tC c 1 c.co.length) (tC c 2 c.co.length) (tC c 3 c.co.length) [])∧ab (iL pE 232 kW fr lh sh) 37=⟨1,.cells (fE X Y Z c r a8 J aw aA az (fU K N O F H I .nilsl nb)) 0 true⟩):=by
 refine cq (P:=fun W aN aR=>ab aN 2=k2∧ab aN 3=k3∧ab aN 35=qI∧ ∃(R:List ah) (kn:List (Nat×Int)) (F H I:T),aR=eJ r (bE c.cs c.cs.length) kn R∧jC c.cs kn∧eK R 80 (iF K N O F H I .nilsl l1 l2 l3 (tC c 1 c.co.length) (tC c 2 c.co.length) (tC c 3 c.co.length) [])∧ab aN 37=⟨1,.cells (fE X Y Z c r a8 J aw aA az (fU K N O F H I .nilsl nb)) 0 true⟩)
  (cY (fun k st=> ∃(fr:Fr) (U:aE ah) (R:List ah) (kn:List (Nat×Int)) (F H I:T),st=⟨fr,U,eJ r (bE c.cs c.cs.length) kn R⟩∧jC c.cs kn∧eK R (40+k) (iF K N O F H I .nilsl l1 l2 l3 (tC c 1 k) (tC c 2 k) (tC c 3 k) [])∧aa fr 8= .ptr .L 37 1 0∧aa fr 14= .ptr .S 2 1 0∧aa fr 105=J∧aa fr 106= qi (c.co.length:Int)∧aa fr 107= qi (k:Int)∧ab U 2=k2∧ab U 3=k3∧ab U 35=qI∧ab U 37=⟨1,.cells (fE X Y Z c r a8 J aw aA az (fU K N O F H I .nilsl nb)) 0 true⟩) _ c.co.length ?_ ?_ 0 _ (Nat.zero_le _) ⟨fr,lh,R0,CP,.nilsl,.nilsl,.nilsl,by rw[fx],yB,IB,h8,cV,NJ,KJ,KK,o2,o3,fH,cP⟩)
 ·rintro k _ hk ⟨fr,U,R,kn,F,H,I,rfl,jH,lO,h8,cV,NJ,KJ,KK,o2,o3,fH,cP⟩
  left
  have hk':(k:Int)<c.co.length:=zV
  have hw:=aF (k:=k) zV
  obtain⟨b,cb,rr,hia,fg,hb⟩:=CS i9 j9 k hk
  obtain⟨fw,V,t,hty⟩:=iR c.co[k] (List.getElem_mem hk)
  have CQ:=(iS V).1
  obtain⟨cf,cM,aC,ym,jD,_⟩:=Hf c.cs r R c.cs.length (Nat.le_refl _) (Hg c.cs r R c7 i7 j7) c.co[k].sc (.inr fw) c.co[k].x t kn _ jH hb CQ (iG V) (by rw[yC];exact hty)
  have hsz:=AF (fI c.cs) c.co[k].sc c.co[k].x
  have s1:=wL c 1 hk
  have s2:=wL c 2 hk
  have s3:=wL c 3 hk
  generalize c.co[k]=u at*
  generalize comp (fI c.cs) u.sc u.x=y at*
  obtain⟨fa,fc,rfl,CA,hf2⟩:=ym.cells
  simp only[qA,seval,kW,NJ,KJ,KK,hk',hia]
  generalize hD:DC pE 232 bH _=D
  obtain⟨W,aN,R',c1',c2',c3',rfl,hR',q2,q3,q4⟩:=aHI c r a8 J aw aA az X Y Z nb K N O F H I _ kn cM R u.x b y fa ((ab U 18).g+1) u.sc (40+k) fw zV l1 l2 l3 _ _ _ lO ym zV fg.froz1 fg.kept1 CA.froz1 CA.kept1 aC hD (by simp only[qA,seval,h8]) (by simp only[qA,seval,cV]) yk yk (by simp only[qA,seval,cP])
  rw[←s1,←s2,←s3]at hR'
  have f8:aa W 8= .ptr .L 37 1 0:=by rw[q2 8 zz];simp only[qA,seval,h8]
  have f14:aa W 14= .ptr .S 2 1 0:=by rw[q2 14 zz];simp only[qA,seval,cV]
  have f105:aa W 105=J:=by rw[q2 105 zz];simp only[qA,seval,NJ]
  have f106:aa W 106= qi (c.co.length:Int):=by rw[q2 106 zz];simp only[qA,seval,KJ]
  have f107:aa W 107= qi (k:Int):=by rw[q2 107 zz];simp only[qA,seval,KK]
  have p2:ab aN 2=k2:=by rw[q3 2 zz zz];simp only[qA,seval,o2]
  have p3:ab aN 3=k3:=by rw[q3 3 zz zz];simp only[qA,seval,o3]
  have p35:ab aN 35=qI:=by rw[q3 35 zz zz];simp only[qA,seval,fH]
  simp only[qA,seval,f107,hw]
  refine⟨_,rfl,_,_,R',cM,c1',c2',c3',rfl,jD,hR', ?_, ?_, ?_, ?_, ?_, ?_, ?_, ?_, ?_⟩
  all_goals (simp only[qA,seval,f8,f14,f105,f106,p2,p3,p35,q4])
 ·rintro _ ⟨fr,U,R,kn,F,H,I,rfl,jH,lO,h8,cV,NJ,KJ,KK,o2,o3,fH,cP⟩
  simp only[qA,seval,kW,KJ,KK,Int.lt_irrefl]
  exact⟨_,_,tS,rfl,rfl,o2,o3,fH,R,kn,F,H,I,rfl,jH,lO.mono zV,cP⟩
def agT:T→Bool
 | .ptr .S .. =>true
 |_=>false
theorem gq{k g off:Nat}:agT (.ptr .S k g off)=true:=nr rfl
def D8:T→FP
 | .ptr .S k _ _=>⟨false,[(.S,k)],[(.S,k)]⟩
 |_=>fW
section
variable{E:Env}{call:ku}{n:Nat}{fr:Fr}{lh:aE ah}{sh:List ah}{ds:List (List Nat×aG)}{bu:List FP}{u:List Nat}
theorem rj{x v:aV}{m:Nat}(hx:agT (rd fr x)=true)(K:froz (rd fr v)=true):aK E call n ((u,⟨none,.st x v m,none⟩)::ds) bu ⟨fr,lh,sh⟩=
  if meets u bu (D8 (rd fr x))=true then ke E call n ds (bu++ [D8 (rd fr x)]) (aj E call n [⟨none,.st x v m,none⟩] ⟨fr,lh,sh⟩)else none:=by
 refine nN fun F=> ?_
 cases D:rd fr x with
 |ptr sp k g off=>
  cases sp with
  |L=>rw[D]at hx;simp[agT]at hx
  |S=>
   by_cases J:(decide ((cellsOf (rd fr v)).length≠m)|| !noTup (rd fr v))=true
   ·obtain⟨w,I,hr,r⟩:=qy (q:= .fail) (by rfl) (by rw[dw];simp only[bB,od,D];rw[if_pos J]) F
    simp[Q.run]at hr
   ·obtain⟨w,I,hr,r⟩:=qy (q:= .rd .S k (Ko k g off m (rd fr v))) (by rfl) (by rw[dw];simp only[bB,od,D];rw[if_neg J];rfl) F
    simp only[Q.run,Q.log,Q.asks]at hr r
    generalize N:(St.mk fr lh sh).get .S k=e at hr r
    obtain⟨O,ob⟩:=e
    unfold Ko at hr r
    by_cases H:O=g
    ·cases ob with
     |none=>simp[H,Q.run]at hr
     |map ks V z=>simp[H,Q.run]at hr
     |cells cs W bx=>
      simp only[H,if_true]at hr r
      split at hr
      ·rename_i hc
       rw[if_pos hc]at r
       have hs:(bx&&(Sp.S==Sp.L))=false:=by cases bx <;> rfl
       rw[hs]at hr r
       simp only[Bool.false_eq_true,if_false]at hr r
       unfold aJ at hr r
       rw[kb K]at hr r
       simp only[Q.bind]at hr r
       split at hr
       ·simp[Q.run]at hr
       ·rename_i U
        rw[if_neg U]at r
        simp[Q.run]at hr
        obtain⟨rfl,rfl⟩:=hr
        rw[r (by simp[inB,zq,N])]
        rfl
      ·simp[Q.run]at hr
    ·simp only[H,if_false,Q.run]at hr
     cases hr
 |_=>rw[D]at hx;simp[agT]at hx
theorem eB{k g off:Nat}:D8 (.ptr .S k g off)=⟨false,[(.S,k)],[(.S,k)]⟩:=nr rfl
end
def nwd(c:Ct)(r U:T)(c7 uF:List T)(i7:IsSl r c.cs.length c7)(j7:dc c.cs c7)(i10:IsSl U c.cr.length uF)(Ah:cD c.cr uF)(hlen:c.cr.length≤40)(iR: ∀u∈c.cr,KI c.cs 1 u)(zT aT fT a8 a9 aA az nb D F H I J K:T)(k2 k3 qI:ah)(CP:List (Nat×Int))(yB:jC c.cs CP)(R0:List ah)(l1 l2 l3 q1 q2 q3:RL)(IB:eK R0 80 (iF D F H I J K .nilsl l1 l2 l3 q1 q2 q3 []))(fr:Fr)(lh:aE ah)(sh:List ah)(fx:sh=eJ r (bE c.cs c.cs.length) CP R0)
  (V:aa fr 8= .ptr .L 37 1 0) (W:aa fr 14= .ptr .S 2 1 0) (Hi:aa fr 156=U) (D9:aa fr 157= qi (c.cr.length:Int)) (KL:aa fr 158= qi 0) (Y:ab lh 2=k2) (Z:ab lh 3=k3) (fH:ab lh 35=qI) (N:ab lh 37=⟨1,.cells (fE zT aT fT c r a8 a9 U aA az (fU D F H I J K .nilsl nb)) 0 true⟩):
  qz 232 jN fr lh sh (.ext 8)∧
  (ab (iL pE 232 jN fr lh sh) 2=k2∧ab (iL pE 232 jN fr lh sh) 3=k3∧ab (iL pE 232 jN fr lh sh) 35=qI∧ ∃(R:List ah) (kn:List (Nat×Int)) (cr:T),je pE 232 jN fr lh sh=eJ r (bE c.cs c.cs.length) kn R∧jC c.cs kn∧eK R 120 (iF D F H I J K cr l1 l2 l3 q1 q2 q3 (TN c c.cr.length))∧ab (iL pE 232 jN fr lh sh) 37=⟨1,.cells (fE zT aT fT c r a8 a9 U aA az (fU D F H I J K cr nb)) 0 true⟩):=by
 refine cq (P:=fun bL aN aR=>ab aN 2=k2∧ab aN 3=k3∧ab aN 35=qI∧ ∃(R:List ah) (kn:List (Nat×Int)) (cr:T),aR=eJ r (bE c.cs c.cs.length) kn R∧jC c.cs kn∧eK R 120 (iF D F H I J K cr l1 l2 l3 q1 q2 q3 (TN c c.cr.length))∧ab aN 37=⟨1,.cells (fE zT aT fT c r a8 a9 U aA az (fU D F H I J K cr nb)) 0 true⟩)
  (cY (fun k st=> ∃(fr:Fr) (X:aE ah) (R:List ah) (kn:List (Nat×Int)) (cr:T),st=⟨fr,X,eJ r (bE c.cs c.cs.length) kn R⟩∧jC c.cs kn∧eK R (80+k) (iF D F H I J K cr l1 l2 l3 q1 q2 q3 (TN c k))∧aa fr 8= .ptr .L 37 1 0∧aa fr 14= .ptr .S 2 1 0∧aa fr 156=U∧aa fr 157= qi (c.cr.length:Int)∧aa fr 158= qi (k:Int)∧ab X 2=k2∧ab X 3=k3∧ab X 35=qI∧ab X 37=⟨1,.cells (fE zT aT fT c r a8 a9 U aA az (fU D F H I J K cr nb)) 0 true⟩) _ c.cr.length ?_ ?_ 0 _ (Nat.zero_le _) ⟨fr,lh,R0,CP,.nilsl,by rw[fx],yB,IB,V,W,Hi,D9,KL,Y,Z,fH,N⟩)
 ·rintro k _ hk ⟨fr,X,R,kn,cr,rfl,jH,lO,V,W,Hi,D9,KL,Y,Z,fH,N⟩
  left
  have hk':(k:Int)<c.cr.length:=zV
  have hw:=aF (k:=k) zV
  obtain⟨b,cb,rr,hia,fg,sH,hb⟩:=nO i10 Ah k hk
  obtain⟨fw,O,t,hty⟩:=iR c.cr[k] (List.getElem_mem hk)
  have CQ:=(iS O).1
  obtain⟨cf,cM,aC,ym,jD,_⟩:=Hf c.cs r R c.cs.length (Nat.le_refl _) (Hg c.cs r R c7 i7 j7) 1 (.inr fw) c.cr[k] t kn _ jH hb CQ (iG O) (by rw[yC];exact hty)
  have hsz:=AF (fI c.cs) 1 c.cr[k]
  have s1:=aat c hk
  generalize c.cr[k]=u at*
  generalize comp (fI c.cs) 1 u=y at*
  obtain⟨fa,fc,rfl,CA,hf2⟩:=ym.cells
  have wM:xx 3 [([],y)] [qi y.op,qi y.num,fa]:=by
   have:=(xx.nil 3).app3 ([],y) _ ym (by show y.sz≤1000;omega)
   simpa using this
  have DI:=Hh
  unfold fE aO fU at N ⊢
  simp only[List.cons_append,List.nil_append]at N ⊢
  rcases lO.1 (3,cr,TN c k) (by simp[iF])with⟨hnil,xw⟩|⟨i,g,n,cs,hv,hE,hi,hn,hB,hfz⟩
  ·simp only at hnil xw
   subst hnil
   rw[xw,List.nil_append]at s1
   have oD:=(lO.mono (Nat.le_succ (80+k))).new zV 6 (by simp[iF]) (sz:=3) rfl [qi y.op,qi y.num,fa] rfl _ wM
   simp only[qA,seval,repl,bg,CC,aH,fS,eO,dA,jN,V,W,Hi,D9,KL,N,hk',hia,hw,aC,mH,nH,fg.kept1,CA.froz1,cO,db,be,cR,dn,Fv,oC,Fw,DI,cG,cS,pR,Nat.lt_succ_self,rj,gq,eB]
   refine⟨_,rfl,_,_,bI R R.length ⟨1,.cells [qi y.op,qi y.num,fa] 0 false⟩,cM,.isl .S (R.length+7) 1 0 1 3,rfl,jD,(by rw[s1];exact oD), ?_, ?_, ?_, ?_, ?_, ?_, ?_, ?_, ?_⟩
   all_goals (simp only[qA,seval,V,W,Hi,D9,Y,Z,fH])
  ·simp only at hv
   subst hv
   have pQ:=lO.app 6 (by simp[iF]) (sz:=3) rfl rfl hE hi hn hB [qi y.op,qi y.num,fa] rfl _ (hfz.app3 ([],y) _ ym (by show y.sz≤1000;omega)) (g+1)
   have sY:(n+1)*40≤roomy:=AG zV
   simp only[qA,seval,repl,bg,CC,aH,fS,eO,dA,jN,V,W,Hi,D9,KL,N,hk',hia,hw,aC,mH,nH,fg.kept1,CA.froz1,cO,db,be,dJ,ew,cE,Fv,oC,Fw,cG,cS,gp,pS,Nat.lt_succ_self,rj,gq,eB,hE,hn,sY]
   refine⟨_,rfl,_,_,bI R i ⟨g+1,.cells (cs++ [qi y.op,qi y.num,fa]) 0 false⟩,cM,.isl .S (i+7) (g+1) 0 (n+1) 3,rfl,jD,(by rw[s1];exact pQ), ?_, ?_, ?_, ?_, ?_, ?_, ?_, ?_, ?_⟩
   all_goals (simp only[qA,seval,V,W,Hi,D9,Y,Z,fH])
 ·rintro _ ⟨fr,X,R,kn,cr,rfl,jH,lO,V,W,Hi,D9,KL,Y,Z,fH,N⟩
  simp only[qA,seval,jN,D9,KL,Int.lt_irrefl]
  exact⟨_,_,tS,rfl,rfl,Y,Z,fH,R,kn,cr,rfl,jH,lO.mono zV,N⟩
theorem KM{lh:aE ah}{sh:List ah}{k g off r:Nat}{cs:List T}(D:aI sh k=⟨g,.cells cs r false⟩)(hc:cs.all froz1=true):fzV lh sh false (.ptr .S k g off)=some (.vp (cs.drop off),[(.S,k,⟨g,.cells cs cs.length false⟩)]):=by
 have F:(cs.drop off).all froz1=true:=by
  rw[List.all_eq_true]at hc ⊢
  exact fun x hx=>hc x (List.mem_of_mem_drop hx)
 have H:(St.mk .nil lh sh).get .S k=aI sh k:=rfl
 unfold fzV aJ
 rw[fz]
 simp only[Bool.false_and,Bool.false_eq_true,if_false,Q.run,H,D,if_true]
 rw[iP _ F]
 rfl
theorem aBK{f:Fm}{c:List T}(h:jv f c):c.all froz1=true:=by
 obtain⟨a,r,rfl,h1,h2⟩:=h.cells
 simp[h1.froz1,wq]
theorem als: ∀{l:List Fm} {cs:List T},bf l cs→cs.all froz1=true
 | [],cs,h=>by rw[bf]at h;rw[h];rfl
 |f::l,cs,h=>by
  rw[bf]at h
  obtain⟨c,r,h1,h2,h3⟩:=h
  rw[h1,List.all_append,aBK h2,als h3];rfl
theorem aBL: ∀{l:List (List Nat×Fm)} {cs:List T},aD RlR l cs→cs.all froz1=true
 | [],cs,h=>by rw[aD]at h;rw[h];rfl
 |u::l,cs,h=>by
  obtain⟨c,r,rfl,⟨D,rfl,h2⟩,h3⟩:=h
  rw[List.all_append,aBL h3,List.all_cons,aBK h2];rfl
theorem xx.froz{sz:Nat}{l:RL}{cs:List T}(h:xx sz l cs):cs.all froz1=true:=by
 have h1:=h.1
 split at h1
 ·exact aBL h1
 ·exact als h1
def xx.at4{l:RL}{cs:List T}(h:xx 4 l cs){n k:Nat}(H:n*4=cs.length)(hk:k<n): ∃(f:Fm) (b:T) (F r:List T),cs.drop (k*4+1)= qi f.op:: qi f.num::b::r∧IsSl b f.args.length F∧bf f.args F∧f.sz≤1000:=by
 have h2:=h.2
 have h1:=h.1
 rw[if_pos rfl]at h1
 have I:=aD.len RlR.len h1
 have D:k<l.length:=zV
 obtain⟨c,r,h3,J,rfl,h4⟩:=aD.drop RlR.len k D h1
 obtain⟨b,F,rfl,h5,h6⟩:=h4.cells
 refine⟨l[k].2,b,F,r, ?_,h5,h6,h2 _ (List.getElem_mem D)⟩
 rw[←List.drop_drop,h3]
 rfl
def xx.at3{l:RL}{cs:List T}(h:xx 3 l cs){n k:Nat}(I:n*3=cs.length)(hk:k<n): ∃(f:Fm) (b:T) (F r:List T),cs.drop (k*3)= qi f.op:: qi f.num::b::r∧IsSl b f.args.length F∧bf f.args F∧f.sz≤1000:=by
 have h2:=h.2
 have h1:=h.1
 rw[if_neg zz]at h1
 have H:=bf.len h1
 rw[List.length_map]at H
 have D:k<l.length:=zV
 have TL:k<(l.map Prod.snd).length:=by simpa using D
 obtain⟨c,r,h3,h4,_⟩:=bf.drop k TL h1
 rw[List.getElem_map]at h4
 obtain⟨b,F,rfl,h5,h6⟩:=h4.cells
 exact⟨l[k].2,b,F,r,h3,h5,h6,h2 _ (List.getElem_mem D)⟩
def RwW(R:List ah)(p:Nat×T×RL):Prop:=(p.2.1= .nilsl∧p.2.2= [])∨ ∃i g n cs r,p.2.1= .isl .S (i+7) g 0 n p.1∧aI R i=⟨g,.cells cs r false⟩∧i<R.length∧n*p.1=cs.length∧n≤1000∧xx p.1 p.2.2 cs
def uj(R:List ah)(r:List (Nat×T×RL)):Prop:= ∀p∈r,RwW R p
def eK.toW{R:List ah}{B:Nat}{r:List (Nat×T×RL)}(h:eK R B r)(F:B≤1000):uj R r:=fun p D=>by
 rcases h.1 p D with h|⟨i,g,n,cs,h1,h2,h3,h4,h5,h6⟩
 ·exact .inl h
 ·exact .inr ⟨i,g,n,cs,0,h1,h2,h3,h4,by omega,h6⟩
def aHJ(c:Ct)(F a8 a9 aw aA az zT aT fT I D J K N O cr:T)(m:List (List Nat×Nat))(kn:List (Nat×Int))(nb0:Bool)(R0:List ah)(l1 l2 l3 e1 e2 e3 er:RL)(IB:uj R0 (iF I D J K N O cr l1 l2 l3 e1 e2 e3 er))(U:Nat)(D2:(D= .nilsl∧U=0)∨ ∃i g,D= .isl .S (i+7) g 0 U 4)(D1:U≤1000)(k2 k3 qI:ah)(fr:Fr)(lh:aE ah)(sh:List ah)(fx:sh=eJ F m kn R0)
  (Y:aa fr 8= .ptr .L 37 1 0) (V:aa fr 181= qi (U:Int)) (hi:aa fr 182= qi 0) (o2:ab lh 2=k2) (o3:ab lh 3=k3) (fH:ab lh 35=qI) (W:ab lh 37=⟨1,.cells (fE zT aT fT c F a8 a9 aw aA az (fU I D J K N O cr (.b nb0))) 0 true⟩):
  qz 232 jM fr lh sh (.ext 10)∧
  (ab (iL pE 232 jM fr lh sh) 2=k2∧ab (iL pE 232 jM fr lh sh) 3=k3∧ab (iL pE 232 jM fr lh sh) 35=qI∧ ∃(R:List ah) (H:Bool),je pE 232 jM fr lh sh=eJ F m kn R∧uj R (iF I D J K N O cr l1 l2 l3 e1 e2 e3 er)∧ab (iL pE 232 jM fr lh sh) 37=⟨1,.cells (fE zT aT fT c F a8 a9 aw aA az (fU I D J K N O cr (.b H))) 0 true⟩):=by
 refine cq (P:=fun bL aN aR=>ab aN 2=k2∧ab aN 3=k3∧ab aN 35=qI∧ ∃(R:List ah) (H:Bool),aR=eJ F m kn R∧uj R (iF I D J K N O cr l1 l2 l3 e1 e2 e3 er)∧ab aN 37=⟨1,.cells (fE zT aT fT c F a8 a9 aw aA az (fU I D J K N O cr (.b H))) 0 true⟩)
  (cY (fun k st=> ∃(fr:Fr) (Z:aE ah) (R:List ah) (H:Bool),st=⟨fr,Z,eJ F m kn R⟩∧uj R (iF I D J K N O cr l1 l2 l3 e1 e2 e3 er)∧aa fr 8= .ptr .L 37 1 0∧aa fr 181= qi (U:Int)∧aa fr 182= qi (k:Int)∧ab Z 2=k2∧ab Z 3=k3∧ab Z 35=qI∧ab Z 37=⟨1,.cells (fE zT aT fT c F a8 a9 aw aA az (fU I D J K N O cr (.b H))) 0 true⟩) _ U ?_ ?_ 0 _ (Nat.zero_le _) ⟨fr,lh,R0,nb0,by rw[fx],IB,Y,V,hi,o2,o3,fH,W⟩)
 ·rintro k _ hk ⟨fr,Z,R,H,rfl,lO,Y,V,hi,o2,o3,fH,W⟩
  left
  have hk':(k:Int)<U:=zV
  have hw:=aF (k:=k) zV
  have yD: ∃i g,D= .isl .S (i+7) g 0 U 4:=by
   rcases D2 with⟨_,h⟩|h
   ·omega
   ·exact h
  obtain⟨i0,g0,yD⟩:=yD
  rcases lO (4,D,l2) (by simp[iF])with⟨X,_⟩|⟨i,g,n,cs,wm,hv,hE,mF,hn,hB,hfz⟩
  ·simp only[yD]at X;cases X
  simp only[yD]at hv
  injection hv with _ q1 q2 _ q3 _
  have q1:i0=i:=zV
  subst q1 q2 q3
  obtain⟨f,b,cb,r,hdr,hb,U0,aHK⟩:=hfz.at4 hn hk
  have hus:=alo (p:=1) f b cb r hb U0 zV
  have hcz:=hfz.froz
  have hz: ∀lh,fzV lh (eJ F m kn R) false (.ptr .S (i0+7) g0 (k*4+1))=some (.vp (qi f.op:: qi f.num::b::r),[(.S,i0+7,⟨g0,.cells cs cs.length false⟩)]):=fun lh=>by
   rw[KM (by rw[Fv];exact hE) hcz,hdr]
  have hzL: ∀lh,Aa lh (eJ F m kn R) false [.ptr .S (i0+7) g0 (k*4+1),qi 1]=some ([.vp (qi f.op:: qi f.num::b::r),qi 1],[(.S,i0+7,⟨g0,.cells cs cs.length false⟩)]):=fun lh=>by
   rw[js,js,Az,hz lh,mi (by rfl)];rfl
  have fw: ∀x,scalar (.b x)=true:=fun _=>rfl
  unfold fE aO fU at W ⊢
  simp only[List.cons_append,List.nil_append,yD]at W ⊢
  cases H with
  |true=>
   simp only[qA,seval,jM,Y,V,hi,W,hk',hw]
   refine⟨_,rfl,_,_,R,true,rfl,(by rw[←yD];exact lO), ?_, ?_, ?_, ?_, ?_, ?_, ?_⟩
   all_goals (simp only[qA,seval,Y,V,o2,o3,fH])
  |false=>
   simp only[qA,seval,eY,jM,Y,V,hi,W,hk',hw,hzL,hus,fw,axU,hk]
   refine⟨_,rfl,_,_,R,f.us 1,rfl,(by rw[←yD];exact lO), ?_, ?_, ?_, ?_, ?_, ?_, ?_⟩
   all_goals (simp only[qA,seval,Y,V,o2,o3,fH])
 ·rintro _ ⟨fr,Z,R,H,rfl,lO,Y,V,hi,o2,o3,fH,W⟩
  simp only[qA,seval,jM,V,hi,Int.lt_irrefl]
  exact⟨_,_,tS,rfl,rfl,o2,o3,fH,R,H,rfl,lO,W⟩
def aHM(c:Ct)(F a8 a9 aw aA az zT aT fT I J K N D O cr:T)(m:List (List Nat×Nat))(kn:List (Nat×Int))(nb0:Bool)(R0:List ah)(l1 l2 l3 e1 e2 e3 er:RL)(IB:uj R0 (iF I J K N D O cr l1 l2 l3 e1 e2 e3 er))(U:Nat)(D2:(D= .nilsl∧U=0)∨ ∃i g,D= .isl .S (i+7) g 0 U 3)(D1:U≤1000)(k2 k3 qI:ah)(fr:Fr)(lh:aE ah)(sh:List ah)(fx:sh=eJ F m kn R0)
  (Y:aa fr 8= .ptr .L 37 1 0) (V:aa fr 209= qi (U:Int)) (hi:aa fr 210= qi 0) (o2:ab lh 2=k2) (o3:ab lh 3=k3) (fH:ab lh 35=qI) (W:ab lh 37=⟨1,.cells (fE zT aT fT c F a8 a9 aw aA az (fU I J K N D O cr (.b nb0))) 0 true⟩):
  qz 232 jL fr lh sh (.ext 12)∧
  (ab (iL pE 232 jL fr lh sh) 2=k2∧ab (iL pE 232 jL fr lh sh) 3=k3∧ab (iL pE 232 jL fr lh sh) 35=qI∧ ∃(R:List ah) (H:Bool),je pE 232 jL fr lh sh=eJ F m kn R∧uj R (iF I J K N D O cr l1 l2 l3 e1 e2 e3 er)∧ab (iL pE 232 jL fr lh sh) 37=⟨1,.cells (fE zT aT fT c F a8 a9 aw aA az (fU I J K N D O cr (.b H))) 0 true⟩):=by
 refine cq (P:=fun bL aN aR=>ab aN 2=k2∧ab aN 3=k3∧ab aN 35=qI∧ ∃(R:List ah) (H:Bool),aR=eJ F m kn R∧uj R (iF I J K N D O cr l1 l2 l3 e1 e2 e3 er)∧ab aN 37=⟨1,.cells (fE zT aT fT c F a8 a9 aw aA az (fU I J K N D O cr (.b H))) 0 true⟩)
  (cY (fun k st=> ∃(fr:Fr) (Z:aE ah) (R:List ah) (H:Bool),st=⟨fr,Z,eJ F m kn R⟩∧uj R (iF I J K N D O cr l1 l2 l3 e1 e2 e3 er)∧aa fr 8= .ptr .L 37 1 0∧aa fr 209= qi (U:Int)∧aa fr 210= qi (k:Int)∧ab Z 2=k2∧ab Z 3=k3∧ab Z 35=qI∧ab Z 37=⟨1,.cells (fE zT aT fT c F a8 a9 aw aA az (fU I J K N D O cr (.b H))) 0 true⟩) _ U ?_ ?_ 0 _ (Nat.zero_le _) ⟨fr,lh,R0,nb0,by rw[fx],IB,Y,V,hi,o2,o3,fH,W⟩)
 ·rintro k _ hk ⟨fr,Z,R,H,rfl,lO,Y,V,hi,o2,o3,fH,W⟩
  left
  have hk':(k:Int)<U:=zV
  have hw:=aF (k:=k) zV
  have yD: ∃i g,D= .isl .S (i+7) g 0 U 3:=by
   rcases D2 with⟨_,h⟩|h
   ·omega
   ·exact h
  obtain⟨i0,g0,yD⟩:=yD
  rcases lO (3,D,e2) (by simp[iF])with⟨X,_⟩|⟨i,g,n,cs,wm,hv,hE,mF,hn,hB,hfz⟩
  ·simp only[yD]at X;cases X
  simp only[yD]at hv
  injection hv with _ q1 q2 _ q3 _
  have q1:i0=i:=zV
  subst q1 q2 q3
  obtain⟨f,b,cb,r,hdr,hb,U0,aHK⟩:=hfz.at3 hn hk
  have hus:=alo (p:=1) f b cb r hb U0 zV
  have hcz:=hfz.froz
  have hz: ∀lh,fzV lh (eJ F m kn R) false (.ptr .S (i0+7) g0 (k*3))=some (.vp (qi f.op:: qi f.num::b::r),[(.S,i0+7,⟨g0,.cells cs cs.length false⟩)]):=fun lh=>by
   rw[KM (by rw[Fv];exact hE) hcz,hdr]
  have hzL: ∀lh,Aa lh (eJ F m kn R) false [.ptr .S (i0+7) g0 (k*3),qi 1]=some ([.vp (qi f.op:: qi f.num::b::r),qi 1],[(.S,i0+7,⟨g0,.cells cs cs.length false⟩)]):=fun lh=>by
   rw[js,js,Az,hz lh,mi (by rfl)];rfl
  have fw: ∀x,scalar (.b x)=true:=fun _=>rfl
  unfold fE aO fU at W ⊢
  simp only[List.cons_append,List.nil_append,yD]at W ⊢
  cases H with
  |true=>
   simp only[qA,seval,jL,Y,V,hi,W,hk',hw]
   refine⟨_,rfl,_,_,R,true,rfl,(by rw[←yD];exact lO), ?_, ?_, ?_, ?_, ?_, ?_, ?_⟩
   all_goals (simp only[qA,seval,Y,V,o2,o3,fH])
  |false=>
   simp only[qA,seval,eY,jL,Y,V,hi,W,hk',hw,hzL,hus,fw,axU,hk]
   refine⟨_,rfl,_,_,R,f.us 1,rfl,(by rw[←yD];exact lO), ?_, ?_, ?_, ?_, ?_, ?_, ?_⟩
   all_goals (simp only[qA,seval,Y,V,o2,o3,fH])
 ·rintro _ ⟨fr,Z,R,H,rfl,lO,Y,V,hi,o2,o3,fH,W⟩
  simp only[qA,seval,jL,V,hi,Int.lt_irrefl]
  exact⟨_,_,tS,rfl,rfl,o2,o3,fH,R,H,rfl,lO,W⟩
def aHN{fr:Fr}{lh:aE ah}{sh:List ah}{D:Option (Out×St)}(l:List Zo)(H:(l.map Zo.nm).Nodup)(a:T)(I:List T)(X:IsSl a l.length I)(hc:aD DG l I)(F:l.length≤100)(J K Bg O3:ah)(Y:DC pE 232 (.loop jO) ⟨fr,lh,sh⟩=D)
  (Z:aa fr 9= .mp .L 38 1) (N:aa fr 40=a) (O:aa fr 41= qi (l.length:Int)) (U:aa fr 42= qi 0) (o2:ab lh 2=J) (o3:ab lh 3=K) (fH:ab lh 35=Bg) (cP:ab lh 37=O3) (KF:ab lh 38=⟨1,.map [] [] false⟩):
  ∃(V:Fr) (aN:aE ah) (W:List ah),D=some (.ext 0,⟨V,aN,W⟩)∧(ab aN 2=J∧ab aN 3=K∧ab aN 35=Bg∧ab aN 37=O3∧(∃m,ab aN 38=⟨1,.map (m.map fun p=>sK p.1) (m.map fun p=>T.agg p.2) false⟩∧NH l m∧m.map Prod.fst=l.map Zo.nm)∧W=sh)∧ ∀s,(bO (.loop jO)).contains s=false→aa V s=aa fr s:=by
 obtain⟨e,r⟩:=nwz l H a I X hc F J K Bg O3 fr lh sh Z N O U o2 o3 fH cP KF
 exact⟨_,_,_,Y.symm.trans e,r,fun s hs=>fy e s hs⟩
def aHO{fr:Fr}{lh:aE ah}{sh:List ah}{D:Option (Out×St)}(l:List Ap)(I:(l.map Ap.cd).Nodup)(a:T)(J:List T)(ha:IsSl a l.length J)(hc:aD NI l J)(F:l.length≤100)(H:List Zo)(m:List (List Nat×List T))(K:NH H m∧m.map Prod.fst=H.map Zo.nm)(N: ∀u∈l,u.zn∈H.map Zo.nm)(O U V:T)(c:Ct)(W X Y Z aA az:T)(vs:List T)(c2 c3:ah)(hD:DC pE 232 (.loop kY) ⟨fr,lh,sh⟩=D)
  (h8:aa fr 8= .ptr .L 37 1 0) (h9:aa fr 9= .mp .L 38 1) (U1:aa fr 52=a) (Fx:aa fr 53= qi (l.length:Int)) (IA:aa fr 54= qi 0) (o2:ab lh 2=c2) (o3:ab lh 3=c3) (fH:ab lh 35=⟨1,.map [] [] false⟩) (cP:ab lh 37=⟨1,.cells (fE O U V c W X Y Z aA az vs) 0 true⟩) (KF:ab lh 38=⟨1,.map (m.map fun p=>sK p.1) (m.map fun p=>T.agg p.2) false⟩):
  ∃(bL:Fr) (aN:aE ah) (aR:List ah),D=some (.ext 2,⟨bL,aN,aR⟩)∧(ab aN 2=c2∧ab aN 3=c3∧ab aN 37=⟨1,.cells (fE O U V c W X Y Z aA az vs) 0 true⟩∧(∃q,ab aN 35=⟨1,.map (q.map fun p=>sK p.1) (q.map fun p=>T.agg p.2) false⟩∧TM H l q∧q.map Prod.fst=l.map Ap.cd)∧aR=sh)∧ ∀s,(bO (.loop kY)).contains s=false→aa bL s=aa fr s:=by
 obtain⟨e,r⟩:=nwa l I a J ha hc F H m K N O U V c W X Y Z aA az vs c2 c3 fr lh sh h8 h9 U1 Fx IA o2 o3 fH cP KF
 exact⟨_,_,_,hD.symm.trans e,r,fun s hs=>fy e s hs⟩
def aHP{fr:Fr}{lh:aE ah}{sh:List ah}{D:Option (Out×St)}(c:Ct)(F H:T)(c7 c8:List T)(i7:IsSl F c.cs.length c7)(j7:dc c.cs c7)(i8:IsSl H c.ru.length c8)(j8:aD U2 c.ru c8)(I:c.ru.length≤40)(iR: ∀u∈c.ru,KI c.cs u.sc u.x)(J K N O U V W X:T)(Y Z Bg:ah)(CP:List (Nat×Int))(yB:jC c.cs CP)(hD:DC pE 232 (.loop fV) ⟨fr,lh,sh⟩=D)(fx:sh=eJ F (bE c.cs c.cs.length) CP [])
  (h8:aa fr 8= .ptr .L 37 1 0) (cV:aa fr 14= .ptr .S 2 1 0) (Fy:aa fr 73=H) (DH:aa fr 74= qi (c.ru.length:Int)) (P9:aa fr 75= qi 0) (o2:ab lh 2=Y) (o3:ab lh 3=Z) (fH:ab lh 35=Bg) (cP:ab lh 37=⟨1,.cells (fE J K N c F H O U V W (fU .nilsl .nilsl .nilsl .nilsl .nilsl .nilsl .nilsl X)) 0 true⟩):
  ∃(bL:Fr) (aN:aE ah) (aR:List ah),D=some (.ext 4,⟨bL,aN,aR⟩)∧(ab aN 2=Y∧ab aN 3=Z∧ab aN 35=Bg∧ ∃(R:List ah) (kn:List (Nat×Int)) (r1 r2 r3:T),aR=eJ F (bE c.cs c.cs.length) kn R∧jC c.cs kn∧eK R 40 (iF r1 r2 r3 .nilsl .nilsl .nilsl .nilsl (uD c 1 c.ru.length) (uD c 2 c.ru.length) (uD c 3 c.ru.length) [] [] [] [])∧ab aN 37=⟨1,.cells (fE J K N c F H O U V W (fU r1 r2 r3 .nilsl .nilsl .nilsl .nilsl X)) 0 true⟩)∧ ∀s,(bO (.loop fV)).contains s=false→aa bL s=aa fr s:=by
 obtain⟨e,r⟩:=nwr c F H c7 c8 i7 j7 i8 j8 I iR J K N O U V W X Y Z Bg CP yB fr lh sh fx h8 cV Fy DH P9 o2 o3 fH cP
 exact⟨_,_,_,hD.symm.trans e,r,fun s hs=>fy e s hs⟩
def aHQ{fr:Fr}{lh:aE ah}{sh:List ah}{D:Option (Out×St)}(c:Ct)(F H:T)(c7 c9:List T)(i7:IsSl F c.cs.length c7)(j7:dc c.cs c7)(i9:IsSl H c.co.length c9)(j9:aD CoR c.co c9)(I:c.co.length≤40)(iR: ∀u∈c.co,KI c.cs u.sc u.x)(O U V W X Y Z nb J K N:T)(k2 k3 qI:ah)(CP:List (Nat×Int))(yB:jC c.cs CP)(R0:List ah)(l1 l2 l3:RL)(IB:eK R0 40 (iF J K N .nilsl .nilsl .nilsl .nilsl l1 l2 l3 [] [] [] []))(hD:DC pE 232 (.loop kW) ⟨fr,lh,sh⟩=D)(fx:sh=eJ F (bE c.cs c.cs.length) CP R0)
  (h8:aa fr 8= .ptr .L 37 1 0) (cV:aa fr 14= .ptr .S 2 1 0) (NJ:aa fr 105=H) (KJ:aa fr 106= qi (c.co.length:Int)) (KK:aa fr 107= qi 0) (o2:ab lh 2=k2) (o3:ab lh 3=k3) (fH:ab lh 35=qI) (cP:ab lh 37=⟨1,.cells (fE O U V c F W H X Y Z (fU J K N .nilsl .nilsl .nilsl .nilsl nb)) 0 true⟩):
  ∃(bL:Fr) (aN:aE ah) (aR:List ah),D=some (.ext 6,⟨bL,aN,aR⟩)∧(ab aN 2=k2∧ab aN 3=k3∧ab aN 35=qI∧ ∃(R:List ah) (kn:List (Nat×Int)) (c1 c2 c3:T),aR=eJ F (bE c.cs c.cs.length) kn R∧jC c.cs kn∧eK R 80 (iF J K N c1 c2 c3 .nilsl l1 l2 l3 (tC c 1 c.co.length) (tC c 2 c.co.length) (tC c 3 c.co.length) [])∧ab aN 37=⟨1,.cells (fE O U V c F W H X Y Z (fU J K N c1 c2 c3 .nilsl nb)) 0 true⟩)∧ ∀s,(bO (.loop kW)).contains s=false→aa bL s=aa fr s:=by
 obtain⟨e,r⟩:=nwc c F H c7 c9 i7 j7 i9 j9 I iR O U V W X Y Z nb J K N k2 k3 qI CP yB R0 l1 l2 l3 IB fr lh sh fx h8 cV NJ KJ KK o2 o3 fH cP
 exact⟨_,_,_,hD.symm.trans e,r,fun s hs=>fy e s hs⟩
def aHR{fr:Fr}{lh:aE ah}{sh:List ah}{D:Option (Out×St)}(c:Ct)(F H:T)(c7 uF:List T)(i7:IsSl F c.cs.length c7)(j7:dc c.cs c7)(W:IsSl H c.cr.length uF)(Ah:cD c.cr uF)(I:c.cr.length≤40)(iR: ∀u∈c.cr,KI c.cs 1 u)(X Y Z a8 a9 aA az nb J K N O U V:T)(k2 k3 qI:ah)(CP:List (Nat×Int))(yB:jC c.cs CP)(R0:List ah)(l1 l2 l3 q1 q2 q3:RL)(IB:eK R0 80 (iF J K N O U V .nilsl l1 l2 l3 q1 q2 q3 []))(hD:DC pE 232 (.loop jN) ⟨fr,lh,sh⟩=D)(fx:sh=eJ F (bE c.cs c.cs.length) CP R0)
  (h8:aa fr 8= .ptr .L 37 1 0) (cV:aa fr 14= .ptr .S 2 1 0) (Hi:aa fr 156=H) (D9:aa fr 157= qi (c.cr.length:Int)) (KL:aa fr 158= qi 0) (o2:ab lh 2=k2) (o3:ab lh 3=k3) (fH:ab lh 35=qI) (cP:ab lh 37=⟨1,.cells (fE X Y Z c F a8 a9 H aA az (fU J K N O U V .nilsl nb)) 0 true⟩):
  ∃(bL:Fr) (aN:aE ah) (aR:List ah),D=some (.ext 8,⟨bL,aN,aR⟩)∧(ab aN 2=k2∧ab aN 3=k3∧ab aN 35=qI∧ ∃(R:List ah) (kn:List (Nat×Int)) (cr:T),aR=eJ F (bE c.cs c.cs.length) kn R∧jC c.cs kn∧eK R 120 (iF J K N O U V cr l1 l2 l3 q1 q2 q3 (TN c c.cr.length))∧ab aN 37=⟨1,.cells (fE X Y Z c F a8 a9 H aA az (fU J K N O U V cr nb)) 0 true⟩)∧ ∀s,(bO (.loop jN)).contains s=false→aa bL s=aa fr s:=by
 obtain⟨e,r⟩:=nwd c F H c7 uF i7 j7 W Ah I iR X Y Z a8 a9 aA az nb J K N O U V k2 k3 qI CP yB R0 l1 l2 l3 q1 q2 q3 IB fr lh sh fx h8 cV Hi D9 KL o2 o3 fH cP
 exact⟨_,_,_,hD.symm.trans e,r,fun s hs=>fy e s hs⟩
def aBM{fr:Fr}{lh:aE ah}{sh:List ah}{D:Option (Out×St)}(c:Ct)(H W X Y Z az zT aT fT I F J K N O cr:T)(m:List (List Nat×Nat))(kn:List (Nat×Int))(U:Bool)(R0:List ah)(l1 l2 l3 e1 e2 e3 er:RL)(IB:uj R0 (iF I F J K N O cr l1 l2 l3 e1 e2 e3 er))(V:Nat)(D2:(F= .nilsl∧V=0)∨ ∃i g,F= .isl .S (i+7) g 0 V 4)(D1:V≤1000)(k2 k3 qI:ah)(hD:DC pE 232 (.loop jM) ⟨fr,lh,sh⟩=D)(fx:sh=eJ H m kn R0)
  (h8:aa fr 8= .ptr .L 37 1 0) (hl:aa fr 181= qi (V:Int)) (hi:aa fr 182= qi 0) (o2:ab lh 2=k2) (o3:ab lh 3=k3) (fH:ab lh 35=qI) (cP:ab lh 37=⟨1,.cells (fE zT aT fT c H W X Y Z az (fU I F J K N O cr (.b U))) 0 true⟩):
  ∃(bL:Fr) (aN:aE ah) (aR:List ah),D=some (.ext 10,⟨bL,aN,aR⟩)∧(ab aN 2=k2∧ab aN 3=k3∧ab aN 35=qI∧ ∃(R:List ah) (nb:Bool),aR=eJ H m kn R∧uj R (iF I F J K N O cr l1 l2 l3 e1 e2 e3 er)∧ab aN 37=⟨1,.cells (fE zT aT fT c H W X Y Z az (fU I F J K N O cr (.b nb))) 0 true⟩)∧ ∀s,(bO (.loop jM)).contains s=false→aa bL s=aa fr s:=by
 obtain⟨e,r⟩:=aHJ c H W X Y Z az zT aT fT I F J K N O cr m kn U R0 l1 l2 l3 e1 e2 e3 er IB V D2 D1 k2 k3 qI fr lh sh fx h8 hl hi o2 o3 fH cP
 exact⟨_,_,_,hD.symm.trans e,r,fun s hs=>fy e s hs⟩
def aBN{fr:Fr}{lh:aE ah}{sh:List ah}{D:Option (Out×St)}(c:Ct)(H W X Y Z az zT aT fT I J K N F O cr:T)(m:List (List Nat×Nat))(kn:List (Nat×Int))(U:Bool)(R0:List ah)(l1 l2 l3 e1 e2 e3 er:RL)(IB:uj R0 (iF I J K N F O cr l1 l2 l3 e1 e2 e3 er))(V:Nat)(D2:(F= .nilsl∧V=0)∨ ∃i g,F= .isl .S (i+7) g 0 V 3)(D1:V≤1000)(k2 k3 qI:ah)(hD:DC pE 232 (.loop jL) ⟨fr,lh,sh⟩=D)(fx:sh=eJ H m kn R0)
  (h8:aa fr 8= .ptr .L 37 1 0) (hl:aa fr 209= qi (V:Int)) (hi:aa fr 210= qi 0) (o2:ab lh 2=k2) (o3:ab lh 3=k3) (fH:ab lh 35=qI) (cP:ab lh 37=⟨1,.cells (fE zT aT fT c H W X Y Z az (fU I J K N F O cr (.b U))) 0 true⟩):
  ∃(bL:Fr) (aN:aE ah) (aR:List ah),D=some (.ext 12,⟨bL,aN,aR⟩)∧(ab aN 2=k2∧ab aN 3=k3∧ab aN 35=qI∧ ∃(R:List ah) (nb:Bool),aR=eJ H m kn R∧uj R (iF I J K N F O cr l1 l2 l3 e1 e2 e3 er)∧ab aN 37=⟨1,.cells (fE zT aT fT c H W X Y Z az (fU I J K N F O cr (.b nb))) 0 true⟩)∧ ∀s,(bO (.loop jL)).contains s=false→aa bL s=aa fr s:=by
 obtain⟨e,r⟩:=aHM c H W X Y Z az zT aT fT I J K N F O cr m kn U R0 l1 l2 l3 e1 e2 e3 er IB V D2 D1 k2 k3 qI fr lh sh fx h8 hl hi o2 o3 fH cP
 exact⟨_,_,_,hD.symm.trans e,r,fun s hs=>fy e s hs⟩
end Go.Proofs.YtnkgnjecmfkcfaaGreat
