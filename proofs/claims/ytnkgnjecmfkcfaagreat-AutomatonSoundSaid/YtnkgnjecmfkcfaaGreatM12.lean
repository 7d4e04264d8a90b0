/- Walks, plain laws (12). Conditions: the theorems' own. -/
import Derived.Test.YtnkgnjecmfkcfaaGreatM11
set_option maxRecDepth 100000
set_option linter.all false
set_option maxHeartbeats 16000000
namespace Go.Proofs.YtnkgnjecmfkcfaaGreat
open Go Go.Ev
theorem NV{z:Zo}{A B f t:Int}(D:0≤f∧f<1440)(ht:0≤t∧t<1440)(h:cT f t=0):z.bandM A B f t=0:=by
 have r: ∀n,kM (fun x=>dD (z.clk x) f t) A n=0:=by
  intro n
  induction n with
  |zero=>rfl
  |succ n ih=>
   rw[kM,ih]
   have e:dD (z.clk (A+n)) f t=false:=by
    have:=K1 (m:=A+n+z.off (A+n)) D ht
    rw[show(A+n+z.off (A+n))%1440=z.clk (A+n)from rfl,h]at this
    grind
   simp[e]
 exact r _
def aB5{v:T}{R:List (Int×Int)}(h:IsSl v R.length (Ms R))(j:Nat)(D:j<R.length): ∃r,∀kk,iaV v (.i kk (j:Int)) 2=some (.vp (qi R[j].1:: qi R[j].2::r)):=by
 refine⟨Ms (R.drop (j+1)),fun kk=> ?_⟩
 rw[h.ia (AL R) D]
 simp_all[Ms,yu]
theorem Hn: ∀{R:List (Int×Int)},wR R→0≤gV R
 | [],_=>by simp[gV]
 |x::R,h=>by
  have h1:=h x yv
  have h2:=Hn (R:=R) fun y r=>h y (by simp[r])
  grind [gV]
def TZ{R:List (Int×Int)}(h:wR R)(k:Nat):0≤gV (R.take k)∧gV (R.take k)≤gV R:=by
 have e:gV R=gV (R.take k)+gV (R.drop k):=by rw[←mz,List.take_append_drop]
 have h1:=Hn (R:=R.take k) fun y r=>h y (List.mem_of_mem_take r)
 have h2:=Hn (R:=R.drop k) fun y r=>h y (List.mem_of_mem_drop r)
 omega
theorem Al.fz{lh:aE ah}{sh:List ah}{v:T}{R:List (Int×Int)}{m:Nat}(h:Al lh v R): ∃w u,Ev.fzW m lh sh false v=some (w,u)∧IsSl w R.length (Ms R)∧Cy sh u=sh:=by
 rcases h with⟨rfl,rfl⟩|⟨R',x,g,rfl,rfl,h⟩
 ·exact⟨.nilsl,[],yw rfl,.inl ⟨rfl,rfl,rfl⟩,rfl⟩
 ·have r:=Qm R' (qi x.1) (qi x.2)
  refine⟨_,_,by rw[G0,h,pI,if_pos ⟨rfl,by rw[r];omega⟩],.inr ⟨false, ?_⟩,rfl⟩
  rw[List.drop_zero,List.take_of_length_le (by rw[r];omega),Ql,List.length_append];rfl
def aB6{f t A B:Int}{fr:Fr}{lh:aE ah}{sh:List ah}{D:Option (Out×St)}(hs:SpB A B f t)(K:cT f t≠0)(L:List (Int×Int×Int))(O: ∀x∈L,aaV x)(r:L.length≤17)(U:DC pE 113 (.loop jY) ⟨fr,lh,sh⟩=D)(h2:aa fr 2= qi f)(F:aa fr 10= qi (cT f t))(I:aa fr 11= .nilsl)(V:aa fr 32=bj L.length (zU L))(C4:aa fr 33= qi (L.length:Int))(Mt:aa fr 34= qi 0):
  ∃J aN R,D=some (.ext 0,⟨J,aN,sh⟩)∧Al aN (aa J 11) R∧wR R∧gV R=ur (fun x=>dD ((x.1+x.2)%1440) f t) L∧R.length≤1000000∧ ∀s,(bO (.loop jY)).contains s=false→aa J s=aa fr s:=by
 obtain⟨e,R,r1,r2,r3,W,X⟩:=aIc f t A B hs K L O r fr lh sh h2 F I V C4 Mt
 unfold qz at e;rw[X]at e
 exact⟨_,_,R,U.symm.trans e,r1,r2,r3,W,fun s hs=>fy e s hs⟩
section
variable(z:Zo)(a:T)(hz:ZoT z a)(hv:ig z=0)(A B f t:Int)(hs:SpB A B f t)
include hz hv hs
def aaW: ∃v R s,ae pE 223 [.agg (mJ z a),.agg [qi A,qi B],qi f,qi t] []=some (.tup [v,qi (cT f t)],s)∧IsSl v R.length (Ms R)∧wR R∧gV R=z.bandM A B f t∧R.length≤1000000:=by
 have I:=aaT z a hz (iM hv).2.1 A B _ rfl
 have GQ:=hs
 obtain⟨U,s2,s3,V,W,X,Y⟩:=GQ
 have Z:=NS (f:=f) (t:=t) hv U s3
 have iR:=Qp U s3 z.sh 0 z.o (Qo (iM hv).1) (fun s q=>(AJ (iM hv).2.2 s q).2)
 have hlen:(jx A B 0 z.o z.sh).length≤17:=by
  have key: ∀(l:List (Int×Int)) (fr o:Int),(jx A B fr o l).length≤l.length+1:=by
   have onZ: ∀p q o:Int,(wQ p q o).length≤1:=fun p q o=>by unfold wQ;split <;> simp
   intro l
   induction l with
   |nil=>grind [jx]
   |cons s r ih=>grind [jx,List.length_append,List.length_cons]
  grind [iM]
 have dL:lenI (bj (jx A B 0 z.o z.sh).length (zU (jx A B 0 z.o z.sh)))=some (qi ((jx A B 0 z.o z.sh).length:Int)):=(dX (cs:=zU (jx A B 0 z.o z.sh)) fun h=>by rw[List.length_eq_zero_iff.1 h];rfl).lenI
 have CV:wr .i64 (t-f)=t-f:=aZ zV
 have J:wr .i64 (t-f+1440)=t-f+1440:=aZ zV
 have F:(t-f+1440).tmod 1440=cT f t:=by unfold cT;exact Int.tmod_eq_emod_of_nonneg zV
 generalize jx A B 0 z.o z.sh=L at*
 obtain⟨cc,ha,hc⟩:=hz
 unfold mJ at I ⊢
 rw[au akb (by simp[Sh])]
 by_cases K:cT f t=0
 ·refine⟨.nilsl,[],[], ?_,.inl ⟨rfl,rfl,rfl⟩,(fun x hx=>by cases hx), ?_,by simp⟩
  ·rw[K]at F
   simp only[qA,seval,Sh,CV,J,F,K]
  ·rw[NV ⟨V,W⟩ ⟨X,Y⟩ K];rfl
 ·simp only[qA,seval,Sh,CV,J,F,K,I,azx,dL,ha.froz1]
  generalize hD:DC pE 113 (.loop jY) _=D
  obtain⟨bL,aN,R,rfl,r1,r2,r3,r4,pr⟩:=aB6 hs K L iR hlen hD yk yk yk yk yk yk
  have O:aa bL 10= qi (cT f t):=by rw[pr 10 zz];simp only[qA,seval]
  obtain⟨w,u,q1,q2,q3⟩:=r1.fz (sh:= []) (m:=6)
  simp only[qA,seval,O,q1]
  grind
omit hz hv hs in
theorem aId(v:T)(R:List (Int×Int))(K:IsSl v R.length (Ms R))(J:wR R)(hs:gV R≤52596000)(hlen:R.length≤1000000)(fr:Fr)(lh:aE ah)(sh:List ah)(r:aa fr 13= qi 0)(D:aa fr 32=v)(C4:aa fr 33= qi (R.length:Int))(Mt:aa fr 34= qi 0):
  qz 47 rS fr lh sh (.ext 0)∧
  (aa (nM pE 47 rS fr lh sh) 13= qi (gV R)∧je pE 47 rS fr lh sh=sh):=by
 refine eG (fun k st=> ∃(fr:Fr) (lh:aE ah),st=⟨fr,lh,sh⟩∧aa fr 13= qi (gV (R.take k))∧aa fr 32=v∧aa fr 33= qi (R.length:Int)∧aa fr 34= qi (k:Int))
  (fun O aN U=>aa O 13= qi (gV R)∧U=sh) _ R.length ?_ ?_ fr lh sh ⟨fr,lh,rfl,r,D,C4,Mt⟩
 ·rintro k _ hk ⟨fr,lh,rfl,r,D,C4,Mt⟩
  have F:(k:Int)<R.length:=zV
  have V:=K5 (k:=k) zV
  obtain⟨Z,I⟩:=aB5 K k hk
  have W:=TZ J (k+1)
  have hx:=J _ (List.getElem_mem hk)
  rw[List.take_succ_eq_append_getElem hk,mz,mA]at W
  rw[List.take_succ_eq_append_getElem hk,mz,mA]
  generalize R[k]=x at*
  generalize gV (R.take k)=q at*
  have X:wr .i64 (x.2-x.1)=x.2-x.1:=aZ zV
  have Y:wr .i64 (q+(x.2-x.1))=q+(x.2-x.1):=aZ zV
  simp only[qA,seval,rS,r,D,C4,Mt,F,I,V,X,Y]
  exact cZ ⟨_,_,rfl,by simp only[qA,seval],by simp only[qA,seval,D],by simp only[qA,seval,C4],by simp only[qA,seval]⟩
 ·rintro _ ⟨fr,lh,rfl,r,D,C4,Mt⟩
  rw[List.take_length]at r
  simp only[qA,seval,rS,C4,Mt,Int.lt_irrefl]
  exact fA ⟨rfl,by simp only[qA,seval,r],rfl⟩
def apr:ae pE 140 [.agg (mJ z a),.agg [qi A,qi B],qi f,qi t] []=some (.tup [qi (z.bandM A B f t),qi 0],[]):=by
 have h1:=ag5 z a hz hv A B f t hs
 obtain⟨v,R,s,h2,h3,h4,h5,h6⟩:=aaW z a hz hv A B f t hs
 have D:z.bandM A B f t≤52596000:=by
  obtain⟨O,s2,s3,_⟩:=hs
  have:=AK (fun x=>dD (z.clk x) f t) A (B-A).toNat
  unfold Zo.bandM rq
  omega
 have r:=fun fr lh sh F I C4 Mt=>aId v R h3 h4 (by rw[h5];exact D) h6 fr lh sh F I C4 Mt
 rw[h5]at r
 have J:=h3.lenI
 obtain⟨U,K,hc⟩:=hz
 unfold mJ at h1 h2 ⊢
 rw[au W5 (by simp[VN])]
 simp only[qA,seval,VN,h1,h2,J,r,K.froz1,azg,azh]
end
theorem aaX{α:Type}{f:α→List Nat}: ∀{l:List α},(l.map f).Nodup→ ∀a∈l,∀b∈l,f a=f b→a=b
 | [],_,a,r,_,_,_=>by cases r
 |x::l,h,a,r,b,D,e=>by
  rw[List.map_cons,List.nodup_cons]at h
  rcases List.mem_cons.1 r with p|p <;> rcases List.mem_cons.1 D with q|q
  ·rw[p,q]
  ·exact absurd (List.mem_map.2 ⟨b,q,by rw[←e,p]⟩) h.1
  ·exact absurd (List.mem_map.2 ⟨a,p,by rw[e,q]⟩) h.1
  ·exact aaX h.2 a p b q e
theorem Qq{α:Type}{f:α→List Nat}: ∀{l:List α},(l.map f).Nodup→ ∀a∈l,l.find? (fun x=>f x==f a)=some a:=by
 intro l h a D
 cases r:l.find? (fun x=>f x==f a)with
 |none=>
  have:=List.find?_eq_none.1 r a D
  simp at this
 |some b=>
  have h1:=List.mem_of_find?_eq_some r
  have h2:=List.find?_some r
  rw[aaX h b h1 a D (by simpa using h2)]
def zo0:Zo:=⟨[],0,[]⟩
def Am(t:Tt)(s:List Nat):Zo:=match t.ap.find? fun u=>u.cd==s with
 |some u=>(t.zo.find? fun z=>z.nm==u.zn).getD zo0
 |none=>zo0
theorem NW{t:Tt}(ht:np t=0){u:Ap}{z:Zo}{s:List Nat}(r:u∈t.ap)(hz:z∈t.zo)(h1:u.cd=s)(h2:z.nm=u.zn):Am t s=z:=by
 obtain⟨D,_,F,_⟩:=NK t ht
 subst h1
 unfold Am
 rw[Qq F u r]
 simp only
 rw[←h2,Qq D z hz];rfl
def aps{t:Tt}(ht:np t=0){s:List Nat}(hs:s∈t.ap.map Ap.cd): ∃u∈t.ap,u.cd=s∧ ∃z∈t.zo,z.nm=u.zn∧Am t s=z:=by
 obtain⟨_,h2,_,_⟩:=wN t ht
 obtain⟨u,r,h1⟩:=List.mem_map.1 hs
 obtain⟨z,hz,h3⟩:=List.mem_map.1 (h2 u r)
 exact⟨u,r,h1,z,hz,h3,NW ht r hz h1 h3⟩
def yH{t:Tt}(ht:np t=0){s:List Nat}(hs:s∈t.ap.map Ap.cd):ig (Am t s)=0:=by
 obtain⟨u,_,_,z,hz,_,h⟩:=aps ht hs
 rw[h];exact(wN t ht).1 z hz
def aIe{t:Tt}(ht:np t=0){q:List (List Nat×List T)}(r:TM t.zo t.ap q)(D:q.map Prod.fst=t.ap.map Ap.cd){s:List Nat}(hs:s∈t.ap.map Ap.cd): ∃a,aP q s=some (mJ (Am t s) a)∧ZoT (Am t s) a:=by
 obtain⟨v,hv⟩:=yA (by rw[D];exact hs)
 obtain⟨u,F,h1,z,hz,h2,h3⟩:=r _ (wK hv)
 rw[NW ht F hz h1 h2]
 obtain⟨a,I,e,h4,h5⟩:=h3
 simp only at e
 subst e
 exact⟨a,hv,I,h4,h5⟩
def iI{t:Tt}(ht:np t=0){f:Fl}(D:f∈t.fl):f.fr∈t.ap.map Ap.cd∧f.to∈t.ap.map Ap.cd:=by
 have h:=(wN t ht).2.2.1 f D
 unfold Ec at h
 split at h
 ·cases h
 split at h
 ·cases h
 split at h
 ·cases h
 rename_i q
 split at h
 ·cases h
 rename_i r
 exact⟨by simpa using q,by simpa using r⟩
def Qr{c:Ct}(h:eH c=0):0≤c.nf∧c.nf≤1439∧0≤c.nt∧c.nt≤1439:=by
 unfold eH at h
 split at h
 ·rename_i q;exact absurd h q
 rename_i g
 have g:gr c=0:=zV
 unfold gr at g
 split at g
 ·cases g
 rename_i r
 have r:ln c=true:=by simpa using r
 unfold ln at r
 simp only[Bool.and_eq_true,Hk]at r
 omega
def pX(c:Ct)(f:Fl):Int:=f.dp-c.rp
def pY(c:Ct)(g:Fl):Int:=g.ar+c.rl
def Ef(t:Tt)(c:Ct)(f g:Fl):Int:=if pX c f<pY c g then(Am t f.fr).bandM (pX c f) (pY c g) c.nf c.nt else 0
def Ho(t:Tt)(c:Ct)(f g:Fl):Int:=max ((Am t f.fr).off (pX c f)-(Am t g.to).off (pY c g)) ((Am t g.to).off (pY c g)-(Am t f.fr).off (pX c f))
def K6(t:Tt)(c:Ct)(f:Fl):Int:=(Am t f.fr).clk (pX c f)
def K7(t:Tt)(c:Ct)(g:Fl):Int:=(Am t g.to).clk (pY c g)
def K8{c:Ct}(hc:eH c=0){f g:Fl}(D:oI f)(F:oI g):(1440≤pX c f∧pX c f≤52593120)∧(2880≤pY c g∧pY c g≤52594560)∧wr .i64 (f.dp-c.rp)=pX c f∧wr .i64 (g.ar+c.rl)=pY c g∧wr .i64 (pY c g-pX c f)=pY c g-pX c f:=by
 obtain⟨_,I,J,K,O⟩:=D
 obtain⟨_,U,V,W,X⟩:=F
 have r:=CU c hc
 unfold pX pY
 refine⟨by omega,by omega,aZ zV,aZ zV,aZ zV⟩
def AM{x:Int}(h:0≤x∧x<52596000):oK x=true:=by unfold oK;simp[h]
section
variable(t:Tt)(c:Ct)(zT aT fT a7 a8 a9 aw aA az:T)(vs:List T)(hT:jV t zT aT fT)(hC:kR c a7 a8 a9 aw aA az)(hV:Ea t c vs)(ht:np t=0)(hc:eH c=0)
theorem Qs(hV:Ea t c vs)(ht:np t=0){s:List Nat}(hs:s∈t.ap.map Ap.cd): ∃a,ae pE 139 [stV c zT aT fT a7 a8 a9 aw aA az vs,.s s] []=some (.agg (mJ (Am t s) a),[])∧ZoT (Am t s) a:=by
 obtain⟨q,r1,r2,r3,c1,c2,c3,cr,nb,rfl,F,I,_⟩:=hV
 obtain⟨a,hv,D⟩:=aIe ht F I hs
 refine⟨a, ?_,D⟩
 have r:=P3 (kT:=sK) (vT:=T.agg) D7 (fun _=>rfl) q s (.agg [.s [],qi 0,.nilsl])
 rw[hv]at r
 change iN _ _ _ (.s s) _ _=_ at r
 obtain⟨J,h1,h2⟩:=D
 unfold mJ at*
 unfold stV aO
 simp only[List.cons_append,List.nil_append]
 rw[au ajk (by simp[VM])]
 simp only[qA,seval,VM,r,h1.froz1]
def rz(hT:jV t zT aT fT)(i:Nat)(hi:i<t.fl.length): ∃r,ae pE 77 [stV c zT aT fT a7 a8 a9 aw aA az vs,qi (i:Int)] []=some (.vp (.s t.fl[i].nu:: .s t.fl[i].fr:: .s t.fl[i].to:: qi t.fl[i].dp:: qi t.fl[i].ar:: .s t.fl[i].ty:: qi t.fl[i].n0:: qi t.fl[i].n1:: qi t.fl[i].n2::r),[]):=by
 obtain⟨D,F,I⟩:=hT.f
 exact NM zT aT fT (aO c a7 a8 a9 aw aA az++vs) D t.fl F I i hi
theorem aaY(hT:jV t zT aT fT)(ht:np t=0)(hc:eH c=0)(i j:Nat)(hi:i<t.fl.length)(r:j<t.fl.length):ae pE 138 [stV c zT aT fT a7 a8 a9 aw aA az vs,qi (i:Int),qi (j:Int)] []=some (.agg [qi (pX c t.fl[i]),qi (pY c t.fl[j])],[]):=by
 obtain⟨r1,h1⟩:=rz t c zT aT fT a7 a8 a9 aw aA az vs hT i hi
 obtain⟨r2,h2⟩:=rz t c zT aT fT a7 a8 a9 aw aA az vs hT j r
 obtain⟨_,_,D,F,_⟩:=K8 hc ((fB t ht).1 _ (List.getElem_mem hi)) ((fB t ht).1 _ (List.getElem_mem r))
 generalize t.fl[i]=f at*
 generalize t.fl[j]=g at*
 generalize pX c f=S at*
 generalize pY c g=E at*
 unfold stV aO at*
 simp only[List.cons_append,List.nil_append]at*
 rw[au aji (by simp[VL])]
 simp only[qA,seval,bg,aH,VL,h1,h2,D,F,Gl,anf]
theorem aaZ(hT:jV t zT aT fT)(hV:Ea t c vs)(ht:np t=0)(hc:eH c=0)(i j:Nat)(hi:i<t.fl.length)(X:j<t.fl.length)(x0 x1 x2 x3 x4 x5 x6 x7 x8 x9 Y:T):
  ae pE 80 [stV c zT aT fT a7 a8 a9 aw aA az vs,.isl .S 0 1 0 11 1,qi (i:Int),qi (j:Int)] [⟨1,.cells [x0,x1,x2,x3,x4,x5,x6,x7,x8,x9,Y] 0 false⟩]=some (.tup [],[⟨1,.cells [x0,x1,x2,x3,qi (pY c t.fl[j]-pX c t.fl[i]),qi (Ef t c t.fl[i] t.fl[j]),x6,x7,qi (Ho t c t.fl[i] t.fl[j]),qi (K6 t c t.fl[i]),qi (K7 t c t.fl[j])] 0 false⟩]):=by
 have F:=aaY t c zT aT fT a7 a8 a9 aw aA az vs hT ht hc i j hi X
 obtain⟨r1,h1⟩:=rz t c zT aT fT a7 a8 a9 aw aA az vs hT i hi
 obtain⟨r2,h2⟩:=rz t c zT aT fT a7 a8 a9 aw aA az vs hT j X
 have Z:=List.getElem_mem hi
 have hg:=List.getElem_mem X
 obtain⟨b1,b2,_,_,w3⟩:=K8 hc ((fB t ht).1 _ Z) ((fB t ht).1 _ hg)
 obtain⟨za,I,Ml⟩:=Qs t c zT aT fT a7 a8 a9 aw aA az vs hV ht (iI ht Z).1
 obtain⟨zb,J,r⟩:=Qs t c zT aT fT a7 a8 a9 aw aA az vs hV ht (iI ht hg).2
 have W:=yH ht (iI ht Z).1
 have v2:=yH ht (iI ht hg).2
 have nf:=Qr hc
 have i1:=AM (x:=pX c t.fl[i]) zV
 have i2:=AM (x:=pY c t.fl[j]) zV
 have o1:=uo _ za Ml W _ i1
 have o2:=uo _ zb r v2 _ i2
 have l1:=KZ _ za Ml W _ i1
 have l2:=KZ _ zb r v2 _ i2
 have d1:=Zo.off_bd W (pX c t.fl[i])
 have d2:=Zo.off_bd v2 (pY c t.fl[j])
 have bm:pX c t.fl[i]<pY c t.fl[j]→_:=fun h=>apr _ za Ml W (pX c t.fl[i]) (pY c t.fl[j]) c.nf c.nt ⟨by omega,by omega,by omega,by omega,by omega,by omega,by omega⟩
 have K:=Ml.choose_spec.1.froz1
 have O:=r.choose_spec.1.froz1
 have ca:=Ml.choose_spec.1.cells
 have cb:=r.choose_spec.1.cells
 unfold Ef Ho K6 K7
 generalize t.fl[i]=f at*
 generalize t.fl[j]=g at*
 generalize pX c f=S at*
 generalize pY c g=E at*
 generalize Am t f.fr=U at*
 generalize Am t g.to=V at*
 have w4:wr .i64 (U.off S-V.off E)=U.off S-V.off E:=aZ zV
 have w5:wr .i64 (V.off E-U.off S)=V.off E-U.off S:=aZ zV
 generalize U.off S=p1 at*
 generalize V.off E=p2 at*
 have II:=pT c zT aT fT a7 a8 a9 aw aA az vs
 have hkv:kept (stV c zT aT fT a7 a8 a9 aw aA az vs)=true:=nr rfl
 unfold mJ at*
 rw[au ang (by simp[c80])]
 by_cases D:S<E
 ·have bm:=bm D
  have vP:0<E-S:=zV
  rw[if_pos D]
  unfold stV aO at*
  simp only[List.cons_append,List.nil_append]at*
  simp only[qA,seval,bg,aH,eO,c80,F,h1,h2,I,J,w3,w4,w5,vP,bm,o1,o2,l1,l2,nz,qo,K,O,rj,gq,eB,Gl,ajj,ajl,ajm,ajn,W6,ajq]
  rfl
 ·have vP: ¬0<E-S:=zV
  rw[if_neg D]
  unfold stV aO at*
  simp only[List.cons_append,List.nil_append]at*
  simp only[qA,seval,bg,aH,eO,c80,F,h1,h2,I,J,w3,w4,w5,vP,o1,o2,l1,l2,nz,qo,K,O,Gl,ajj,ajl,ajm,ajn,W6,ajq]
  rfl
end
theorem AN{E:Env}{call:ku}{n:Nat}{fr:Fr}{lh:aE ah}{sh:List ah}{os:List aG}{d bytes:Nat}{z:List T}{x:aV}(hd:d<n):aj E call n (⟨some d,.mksl z bytes x true,none⟩::os) ⟨fr,lh,sh⟩=
  (Nf (rd fr x) bytes).bind fun m=>aj E call n os ⟨cN fr d (.isl .S sh.length 1 0 m z.length),lh,bI sh sh.length ⟨1,.cells (repl z m) 0 (UR z)⟩⟩:=by
 rw[lA (by rfl) (show D3 n (some d)from hd)]
 unfold one Nf
 simp only[bB]
 cases asNat (rd fr x)with
 |none=>rfl
 |some m=>
  simp only[Bool.and_eq_true,decide_eq_true_eq]
  split <;> rfl
structure Cn where
 lg:Int
 hd:Int
 bk:Int
 lo:Int
 so:Int
 ks:List (List Nat)
def cn0:Cn:=⟨0,0,0,0,1440,[]⟩
def adK(s:List Nat)(l:List (List Nat)):List (List Nat):=if s∈l then l else l++ [s]
def Hp(f:Fl)(h:Bool)(s:Cn):Cn:=if h=true then{s with hd:=s.hd+1}else{s with lg:=s.lg+1,bk:=s.bk+(f.ar-f.dp),ks:=adK f.ty s.ks}
def T1(g f:Fl)(s:Cn):Cn:={s with lo:=max s.lo (f.dp-g.ar),so:=min s.so (f.dp-g.ar)}
theorem aIg(g f:Fl)(h:Bool)(s:Cn):Hp f h (T1 g f s)=T1 g f (Hp f h s):=by cases h <;> rfl
def yI(d:List (Int×Bool))(k:Nat):Int×Bool:=d.getD k (0,false)
def df(fl:List Fl)(d:List (Int×Bool))(k:Nat):Fl:=NP fl (yI d k).1
def lq(fl:List Fl)(d:List (Int×Bool)):Nat→Cn
 |0=>cn0
 |k+1=>if k=0 then Hp (df fl d k) (yI d k).2 (lq fl d k)else T1 (df fl d (k-1)) (df fl d k) (Hp (df fl d k) (yI d k).2 (lq fl d k))
def Hq(k:Nat)(s:Cn):Prop:=(0≤s.lg∧s.lg≤k)∧(0≤s.hd∧s.hd≤k)∧(0≤s.bk∧s.bk≤1440*k)∧(0≤s.lo∧s.lo≤52593120)∧(-52593120≤s.so∧s.so≤1440)∧s.ks.length≤k
def apu:Hq 0 cn0:=by unfold Hq cn0;simp
def aa0{f:Fl}(r:oI f){h:Bool}{k:Nat}{s:Cn}(hs:Hq k s):Hq (k+1) (Hp f h s):=by
 obtain⟨_,D,F,I,J⟩:=r
 grind [adK,Hq,Hp]
def NX{f g:Fl}(r:oI f)(D:oI g): -52593120≤f.dp-g.ar∧f.dp-g.ar≤52593120:=by
 obtain⟨_,F,I,J,K⟩:=r
 obtain⟨_,O,U,V,W⟩:=D
 omega
def apv{f g:Fl}(r:oI f)(D:oI g){k:Nat}{s:Cn}(hs:Hq k s):Hq k (T1 g f s):=by
 have:=NX r D
 grind [Hq,T1]
theorem mB{d:List (Int×Bool)}{k:Nat}(hk:k<d.length):yI d k=d[k]:=by grind [yI]
def eP{fl:List Fl}(r: ∀f∈fl,oI f){d:List (Int×Bool)}(hd: ∀k∈d,lQ fl.length k.1=true){k:Nat}(hk:k<d.length): ∃i:Nat,∃hi:i<fl.length,d[k].1=i∧df fl d k=fl[i]∧oI (df fl d k):=by
 obtain⟨i,hi,e⟩:=nR (hd _ (List.getElem_mem hk))
 grind [df,mB,apk]
theorem Hr{fl:List Fl}(r: ∀f∈fl,oI f){d:List (Int×Bool)}(hd: ∀k∈d,lQ fl.length k.1=true): ∀k,k≤d.length→Hq k (lq fl d k)
 |0,_=>apu
 |k+1,h=>by
  have ih:=Hr r hd k zV
  obtain⟨_,_,_,_,h1⟩:=eP r hd (k:=k) zV
  rw[lq]
  split
  ·exact aa0 h1 ih
  ·obtain⟨_,_,_,_,h2⟩:=eP r hd (k:=k-1) zV
   exact apv h1 h2 (aa0 h1 ih)
def aCa(s:List Nat)(l:List (List Nat))(a:T)(O:IsSl a l.length (l.map T.s))(hlen:l.length≤1000)(r:Int)(hr:r=ixA s l 0)(o:Out)(U:o=if r<0 then .ext 0 else .ret)(fr:Fr)(lh:aE ah)(sh:List ah)(h0:aa fr 0=a)(h1:aa fr 1= .s s)(F:aa fr 7= qi (l.length:Int))(I:aa fr 8= qi 0):
  qz 19 rU fr lh sh o∧
  ((¬r<0→aa (nM pE 19 rU fr lh sh) 4= qi r)∧je pE 19 rU fr lh sh=sh):=by
 refine eG (fun k st=> ∃(fr:Fr) (lh:aE ah),st=⟨fr,lh,sh⟩∧r=ixA s (l.drop k) k∧aa fr 0=a∧aa fr 1= .s s∧aa fr 7= qi (l.length:Int)∧aa fr 8= qi (k:Int))
  (fun V aN W=>(¬r<0→aa V 4= qi r)∧W=sh) _ l.length ?_ ?_ fr lh sh ⟨fr,lh,rfl,hr,h0,h1,F,I⟩
 ·rintro k _ hk ⟨fr,lh,rfl,hr,h0,h1,F,I⟩
  have J:(k:Int)<l.length:=zV
  have X:=aF (k:=k) zV
  have D: ∃K,∀kk,iaV a (.i kk (k:Int)) 1=some (.vp (.s l[k]::K)):=by
   refine⟨(l.map T.s).drop (k+1),fun kk=> ?_⟩
   rw[O.ia (sz:=1) yv hk,Nat.mul_one,List.drop_eq_getElem_cons (by simpa using hk),List.getElem_map]
  obtain⟨K,D⟩:=D
  rw[List.drop_eq_getElem_cons hk,ixA]at hr
  generalize l[k]=y at*
  simp only[qB,seval,rU,h0,h1,F,I,J,D,X]
  refine uc (fun h=> ?_) (fun h=> ?_)
  ·rw[if_pos h.symm]at hr
   exact ue ⟨by rw[U,if_neg zV],fun _=>(by simp only[qA,seval,hr]),rfl⟩
  ·rw[if_neg (fun e=>h e.symm)]at hr
   exact cZ ⟨_,_,rfl,hr,by simp only[qA,seval,h0],by simp only[qA,seval,h1],by simp only[qA,seval,F],by simp only[qA,seval]⟩
 ·rintro _ ⟨fr,lh,rfl,hr,h0,h1,F,I⟩
  rw[List.drop_length,ixA]at hr
  simp only[qA,seval,rU,F,I,Int.lt_irrefl]
  grind [fA]
def wU(s:List Nat)(l:List (List Nat))(a:T)(r:IsSl a l.length (l.map T.s))(hlen:l.length≤1000):ae pE 81 [a,.s s] []=some (.b (decide (s∈l)),[]):=by
 have D:=fun fr lh sh h0 h1 J K=>aCa s l a r hlen _ rfl _ rfl fr lh sh h0 h1 J K
 have F:=C5 s l 0
 have O:=AO s l 0
 have I:ae pE 143 [a,.s s] []=some (qi (ixA s l 0),[]):=by
  rw[au ajr (by simp[RR])]
  generalize ixA s l 0=v at*
  by_cases h:v<0
  ·have e:=F h
   subst e
   simp only[qA,seval,RR,D,r.lenI]
  ·simp only[h,if_false,not_false_eq_true,forall_const]at D
   simp only[qA,seval,RR,D,r.lenI]
 have hd:decide (s∈l)=decide (0≤ixA s l 0):=by
  grind
 rw[hd]
 rw[au anh (by simp[c81])]
 generalize ixA s l 0=v at*
 simp only[qA,seval,c81,I,r.froz,ayB]
def dvC(s:Cn):List T:= [qi s.lg,qi s.hd,qi 0,qi s.bk,qi 0,qi 0,qi s.lo,qi s.so,qi 0,qi 0,qi 0]
def alw{n:Nat}(h:n≤1000):(n+1)*16≤roomy:=by unfold roomy;omega
section
variable(t:Tt)(c:Ct)(zT aT fT a7 a8 a9 aw aA az:T)(vs:List T)(hT:jV t zT aT fT)(ht:np t=0)
include hT ht
def aIh(d:List (Int×Bool))(dT:T)(hd:kK d dT)(hlen:d.length≤100)(bw: ∀k∈d,lQ t.fl.length k.1=true)(fr:Fr)(lh:aE ah)(sh:List ah)(fx:sh= [⟨1,.cells (dvC cn0) 0 false⟩])(h0:aa fr 0=stV c zT aT fT a7 a8 a9 aw aA az vs)(h1:aa fr 1=dT)(h5:aa fr 5= .isl .S 0 1 0 11 1)(h6:aa fr 6= .nilsl)(cV:aa fr 14=dT)(X:aa fr 15= qi (d.length:Int))(I:aa fr 16= qi 0):
  Lp pE 117 xK fr lh sh (.ext 0) fun f l s=>aW l (aa f 6) 64 1 (lq t.fl d d.length).ks.length ((lq t.fl d d.length).ks.map T.s)∧s= [⟨1,.cells (dvC (lq t.fl d d.length)) 0 false⟩]:=by
 refine bK uG (fun k f l s=>aa f 16= qi (k:Int)∧aW l (aa f 6) 64 1 (lq t.fl d k).ks.length ((lq t.fl d k).ks.map T.s)∧s= [⟨1,.cells (dvC (lq t.fl d k)) 0 false⟩]) d.length ⟨I,by rw[h6];exact aW.nil,fx⟩ ?_ ?_
 ·rintro k J l _ hk W ⟨I,r,rfl⟩
  have K:(k:Int)<d.length:=zV
  have hw:=aF (k:=k) zV
  have Y:=(fB t ht).1
  obtain⟨rr,D⟩:=iH hd k hk
  obtain⟨i,hi,ei,ef,O⟩:=eP Y bw hk
  obtain⟨r2,Z⟩:=rz t c zT aT fT a7 a8 a9 aw aA az vs hT i hi
  rw[←ef]at Z
  obtain⟨c1,c2,c3,c4,c5,c6⟩:=Hr Y bw k zV
  have iK:lq t.fl d (k+1)=if k=0 then Hp (df t.fl d k) d[k].2 (lq t.fl d k)else T1 (df t.fl d (k-1)) (df t.fl d k) (Hp (df t.fl d k) d[k].2 (lq t.fl d k)):=by rw[lq,mB hk]
  have U:=wU (df t.fl d k).ty (lq t.fl d k).ks (bj (lq t.fl d k).ks.length ((lq t.fl d k).ks.map T.s)) r.isl zV
  have F:=fun(aN:aE ah) (aR:List ah) (keep:Bool) (e:ab aN 64=ab l 64)=>(r.congr e).fzV (sh:=aR) (keep:=keep)
  have dZ:=fun(aN:aE ah) (aR:List ah) (e:ab aN 64=ab l 64)=>de (sh:=aR) (r.congr e) [.s (df t.fl d k).ty] rfl (bytes:=16) (alw zV) true
  have lE:=r.notS
  rw[ei]at D
  obtain⟨_,f1,f2,f3,f4⟩:=id O
  generalize U8:aa J 6=v6 at r F dZ lE
  generalize lq t.fl d k=s at*
  have w1:wr .i64 (s.lg+1)=s.lg+1:=aZ zV
  have w2:wr .i64 (s.hd+1)=s.hd+1:=aZ zV
  have w3:wr .i64 ((df t.fl d k).ar-(df t.fl d k).dp)=(df t.fl d k).ar-(df t.fl d k).dp:=aZ zV
  have w4:wr .i64 (s.bk+((df t.fl d k).ar-(df t.fl d k).dp))=s.bk+((df t.fl d k).ar-(df t.fl d k).dp):=aZ zV
  have II:=pT c zT aT fT a7 a8 a9 aw aA az vs
  have V:adK (df t.fl d k).ty s.ks=if(df t.fl d k).ty∈s.ks then s.ks else s.ks++ [(df t.fl d k).ty]:=rfl
  by_cases An:k=0
  ·have K9: ¬(0:Int)<(k:Int):=zV
   rw[iK,if_pos An]
   generalize df t.fl d k=f at*
   generalize d[k].2=b at*
   cases b <;> by_cases hm:f.ty∈s.ks <;> simp only[qA,seval,gd,repl,bg,aH,eO,xK,uG,W,h0,h1,h5,U8,cV,X,I,K,hw,D,Z,w1,w2,w3,w4,II,rj,gq,eB,K9,lE,F,dZ,U,hm,dx,r,V,Hp,dvC,List.length_append,List.map_append,Gl,axW]
  ·have K9:(0:Int)<(k:Int):=zV
   have CV:=jw (k:=k) zV zV
   obtain⟨r3,C6⟩:=iH hd (k-1) zV
   obtain⟨j,hj,ej,eg,gok⟩:=eP Y bw (k:=k-1) zV
   obtain⟨r4,yp⟩:=rz t c zT aT fT a7 a8 a9 aw aA az vs hT j hj
   rw[←eg]at yp
   rw[ej]at C6
   have gap:=NX O gok
   have w5:wr .i64 ((df t.fl d k).dp-(df t.fl d (k-1)).ar)=(df t.fl d k).dp-(df t.fl d (k-1)).ar:=aZ zV
   rw[iK,if_neg An]
   generalize df t.fl d k=f at*
   generalize df t.fl d (k-1)=g at*
   generalize d[k].2=b at*
   cases b <;> by_cases hm:f.ty∈s.ks <;> simp only[qA,seval,gd,repl,bg,aH,eO,xK,uG,W,h0,h1,h5,U8,cV,X,I,K,hw,D,Z,w1,w2,w3,w4,II,rj,gq,eB,K9,lE,F,dZ,U,hm,dx,r,V,Hp,dvC,List.length_append,List.map_append,Gl,anf,axW,T1,nz,qo,C6,yp,CV,w5]
 ·rintro J l _ W ⟨I,r,rfl⟩
  simp only[qA,seval,gd,xK,W,X,I,r,Int.lt_irrefl]
end
theorem T2{k g o n s:Nat}:kept (.isl .S k g o n s)=true:=nr rfl
def aX(t:Tt)(c:Ct)(d:List (Int×Bool)):List Int:=
 [(lq t.fl d d.length).lg,(lq t.fl d d.length).hd,(lq t.fl d d.length).ks.length,(lq t.fl d d.length).bk,pY c (df t.fl d (d.length-1))-pX c (df t.fl d 0),Ef t c (df t.fl d 0) (df t.fl d (d.length-1)),(lq t.fl d d.length).lo,(lq t.fl d d.length).so,Ho t c (df t.fl d 0) (df t.fl d (d.length-1)),K6 t c (df t.fl d 0),K7 t c (df t.fl d (d.length-1))]
section
variable(t:Tt)(c:Ct)(zT aT fT a7 a8 a9 aw aA az:T)(vs:List T)(hT:jV t zT aT fT)(hV:Ea t c vs)(ht:np t=0)(hc:eH c=0)
include hT hV ht hc
def aa2(d:List (Int×Bool))(dT:T)(hd:kK d dT)(h1:1≤d.length)(hlen:d.length≤100)(bw: ∀k∈d,lQ t.fl.length k.1=true): ∃s,ae pE 43 [stV c zT aT fT a7 a8 a9 aw aA az vs,dT] []=some (.sl (ints (aX t c d)) 11 false,s):=by
 have V:=fun fr lh sh r h0 h1 h5 h6 D F I=>aIh t c zT aT fT a7 a8 a9 aw aA az vs hT ht d dT hd hlen bw fr lh sh r h0 h1 h5 h6 D F I
 have Y:=fun fr lh sh r h0 h1 h5 h6 D F I=>(V fr lh sh r h0 h1 h5 h6 D F I).2.1.lenI
 obtain⟨i,hi,Z,ef,_⟩:=eP (fB t ht).1 bw (k:=0) zV
 obtain⟨j,hj,ej,eg,_⟩:=eP (fB t ht).1 bw (k:=d.length-1) zV
 obtain⟨r1,W⟩:=iH hd 0 zV
 obtain⟨r2,X⟩:=iH hd (d.length-1) zV
 have hw:=jw (k:=d.length) zV zV
 have J:=hd.choose_spec.1.lenI
 have K:kept (stV c zT aT fT a7 a8 a9 aw aA az vs)=true:=nr rfl
 have E2:=aaZ t c zT aT fT a7 a8 a9 aw aA az vs hT hV ht hc i j hi hj
 rw[←ef,←eg]at E2
 rw[Z]at W
 rw[ej]at X
 have O: ∀kk,iaV dT (.i kk 0) 2=_:=W
 have U:(11:Nat)*8≤roomy∧(11:Nat)≤roomy:=by unfold roomy;omega
 unfold aX
 generalize lq t.fl d d.length=s at*
 generalize df t.fl d 0=f at*
 generalize df t.fl d (d.length-1)=g at*
 rw[au axA (by simp[c43])]
 unfold dvC cn0 at*
 simp only[qA,seval,repl,bg,aH,eO,dA,c43,uG,AN,U,V,Y,O,X,hw,J,K,T2,E2,aGn,aGo]
 exact⟨_,rfl⟩
end
def NY{scope:Int}{s:List Nat}{i:Nat}(h:Ag scope s=some i):(U9 scope)[i]? =some s:=by
 unfold Ag dU at h
 have:=wK h
 rw[List.take_length]at this
 exact List.mk_mem_zipIdx_iff_getElem?.1 this
def La(A:List Int):Prop:=A.length=11∧ ∀i s,bC[i]? =some s→C7 (lB s) (A.getD i 0)
def aa3(l:Cs){A:List Int}(h:La A):NZ (Qt (He l) 1) (qD (fI l) 1 A):=by
 intro s t hs
 unfold Qt at hs
 by_cases hz:dI 1 s≠0
 ·rw[if_pos hz]at hs
  injection hs with hs _
  subst hs
  unfold qD
  cases r:Ag 1 s with
  |none=>exact absurd ((mC 1 s).1 r) hz
  |some i=>exact h.2 i s (NY r)
 ·rw[if_neg hz]at hs
  have r:=(mC 1 s).2 (by simpa using hz)
  unfold qD
  rw[r]
  exact Hs l s t hs
def C8{k k' v:Int}(h:k=k')(hv:C7 k' v):C7 k v:=h▸hv
def apw{v:Int}(h:bd v):C7 1 v:= .inl ⟨.inl rfl,h⟩
def T3{v:Int}(h:bd v):C7 2 v:= .inl ⟨.inr rfl,h⟩
def aCe{v:Int}(h:0≤v∧v≤1439):C7 3 v:= .inr (.inl ⟨rfl,h⟩)
def bdE{v:Int}(h: -1000000000≤v∧v≤1000000000):bd v:=by unfold bd;omega
def aa4(z:Zo)(x:Int):0≤z.clk x∧z.clk x≤1439:=by unfold Zo.clk;omega
def aa5{z:Zo}{A B f t:Int}(h1:0≤A)(h2:B≤52596000):0≤z.bandM A B f t∧z.bandM A B f t≤52596000:=by
 have:=AK (fun x=>dD (z.clk x) f t) A (B-A).toNat
 unfold Zo.bandM rq
 omega
def wV{t:Tt}{c:Ct}(ht:np t=0)(hc:eH c=0){d:List (Int×Bool)}(h1:1≤d.length)(hlen:d.length≤100)(bw: ∀k∈d,lQ t.fl.length k.1=true):La (aX t c d):=by
 have F:=(fB t ht).1
 obtain⟨c1,c2,c3,c4,c5,c6⟩:=Hr F bw d.length (Nat.le_refl _)
 obtain⟨i,hi,V,I,r⟩:=eP F bw (k:=0) zV
 obtain⟨j,J,W,K,D⟩:=eP F bw (k:=d.length-1) zV
 obtain⟨b1,b2,_,_,_⟩:=K8 hc r D
 have O:ig (Am t (df t.fl d 0).fr)=0:=by rw[I];exact yH ht (iI ht (List.getElem_mem hi)).1
 have U:ig (Am t (df t.fl d (d.length-1)).to)=0:=by rw[K];exact yH ht (iI ht (List.getElem_mem J)).2
 have e1:=Zo.off_bd O (pX c (df t.fl d 0))
 have e2:=Zo.off_bd U (pY c (df t.fl d (d.length-1)))
 have nb: -1000000000≤Ef t c (df t.fl d 0) (df t.fl d (d.length-1))∧Ef t c (df t.fl d 0) (df t.fl d (d.length-1))≤1000000000:=by
  unfold Ef
  split
  ·have:=aa5 (z:=Am t (df t.fl d 0).fr) (A:=pX c (df t.fl d 0)) (B:=pY c (df t.fl d (d.length-1))) (f:=c.nf) (t:=c.nt) zV zV
   omega
  ·omega
 have X: -1000000000≤Ho t c (df t.fl d 0) (df t.fl d (d.length-1))∧Ho t c (df t.fl d 0) (df t.fl d (d.length-1))≤1000000000:=by
  unfold Ho;omega
 have Y:0≤K6 t c (df t.fl d 0)∧K6 t c (df t.fl d 0)≤1439:=aa4 _ _
 have Z:0≤K7 t c (df t.fl d (d.length-1))∧K7 t c (df t.fl d (d.length-1))≤1439:=aa4 _ _
 refine⟨rfl,fun i s h=> ?_⟩
 unfold aX
 generalize lq t.fl d d.length=q at*
 clear e1 e2 O U V I W K hi J r D F
 match i,h with
 |0,h=>cases h;exact C8 zz (apw (bdE (by show _≤q.lg∧q.lg≤_;omega)))
 |1,h=>cases h;exact C8 zz (apw (bdE (by show _≤q.hd∧q.hd≤_;omega)))
 |2,h=>cases h;exact C8 zz (apw (bdE (by show _≤(q.ks.length:Int)∧(q.ks.length:Int)≤_;omega)))
 |3,h=>cases h;exact C8 zz (T3 (bdE (by show _≤q.bk∧q.bk≤_;omega)))
 |4,h=>cases h;exact C8 zz (T3 (bdE (by show _≤pY c (df t.fl d (d.length-1))-pX c (df t.fl d 0)∧pY c (df t.fl d (d.length-1))-pX c (df t.fl d 0)≤_;omega)))
 |5,h=>cases h;exact C8 zz (T3 (bdE nb))
 |6,h=>cases h;exact C8 zz (T3 (bdE (by show _≤q.lo∧q.lo≤_;omega)))
 |7,h=>cases h;exact C8 zz (T3 (bdE (by show _≤q.so∧q.so≤_;omega)))
 |8,h=>cases h;exact C8 zz (T3 (bdE X))
 |9,h=>cases h;exact C8 zz (aCe Y)
 |10,h=>cases h;exact C8 zz (aCe Z)
 |n+11,h=>cases h
def pZ(l:Cs)(A:List Int)(x:Ex):Int:=x.val0 (qD (fI l) 1 A)
theorem T4{l:Cs}{A:List Int}(hA:La A){x:Ex}(hx:KI l 1 x):IJ A (comp (fI l) 1 x)∧(comp (fI l) 1 x).val A=pZ l A x∧ ∃k,C7 k (pZ l A x):=by
 obtain⟨_,hv,k,hk⟩:=hx
 have r:=(iS hv).1
 have D:=x.nodes_eq
 obtain⟨h1,h2,h3⟩:=Qu (aa3 l hA) (show A.length=(U9 1).length from hA.1) x k (iG hv) zV hk
 exact⟨h1,h2,k,h3⟩
def tD(A:List Int)(l:RL):Bool:=l.all fun u=>decide (u.2.val A≠0)
def tb(n:Int):List Int→Int
 | []=>n
 |v::r=>tb (wr .i64 (n+v)) r
def fJ(A:List Int)(l:RL):Int:=tb 0 (l.map fun u=>u.2.val A)
theorem Lb: ∀(a b:List Int) (n:Int),tb n (a++b)=tb (tb n a) b
 | [],b,n=>rfl
 |v::a,b,n=>by rw[List.cons_append,tb,tb,Lb a b]
def zW(A:List Int)(l:RL):Int:=match l with| []=>A.getD 3 0|u::_=>u.2.val A
def aa6{l:RL}{v:T}(h:Qa 4 l v):lenI v=some (qi (l.length:Int))∧ ∀k (hk:k<l.length),∃b D r,(∀kk,iaV v (.i kk (k:Int)) 4=some (.vp (.s l[k].1:: qi l[k].2.op:: qi l[k].2.num::b::r)))∧IsSl b l[k].2.args.length D∧bf l[k].2.args D:=by
 obtain⟨n,cs,h1,h2,h3,h4⟩:=h
 rw[if_pos rfl]at h3
 have J:=aD.len RlR.len h3
 have e:n=l.length:=zV
 subst e
 refine⟨h1.lenI,fun k hk=> ?_⟩
 obtain⟨c,r,h5,K,rfl,h6⟩:=gI (k:=4) RlR.len h1 h3 k hk
 obtain⟨b,D,rfl,F,I⟩:=h6.cells
 exact⟨b,D,r,h5,F,I⟩
def aa7{l:RL}{v:T}(h:Qa 3 l v):lenI v=some (qi (l.length:Int))∧ ∀k (hk:k<l.length),∃b D r,(∀kk,iaV v (.i kk (k:Int)) 3=some (.vp (qi l[k].2.op:: qi l[k].2.num::b::r)))∧IsSl b l[k].2.args.length D∧bf l[k].2.args D:=by
 obtain⟨n,cs,h1,h2,h3,h4⟩:=h
 rw[if_neg zz]at h3
 have I:=bf.len h3
 rw[List.length_map]at I
 have e:n=l.length:=zV
 subst e
 refine⟨h1.lenI,fun k hk=> ?_⟩
 have TL:k<(l.map Prod.snd).length:=by simpa using hk
 obtain⟨b,D,r,h5,h6,F⟩:=aap (xs:=l.map Prod.snd) (by rw[List.length_map];exact h1) h3 k TL
 rw[List.getElem_map]at h5 h6 F
 exact⟨b,D,r,h5,h6,F⟩
def vsL(m r1 r2 r3 c1 c2 c3 cr nb:T):List T:= [m,.nilsl,r1,r2,r3,.nilsl,c1,c2,c3,cr,nb]
section
variable(c:Ct)(zT aT fT a7 a8 a9 aw aA az m r1 r2 r3 c1 c2 c3 cr nb:T)(A:List Int)(iT:T)(dk:IsSl iT A.length (ints A))
def Qv(dk:IsSl iT A.length (ints A)):ae pE 82 [qi 1,iT] []=some (iT,[]):=by
 rw[au axX (by simp[c82])]
 simp only[qA,seval,c82,dk.froz]
include dk
def aIj(l:RL)(hr:Qa 3 l c1)(iR: ∀u∈l,IJ A u.2)(hlen:l.length≤1000)(fr:Fr)(lh:aE ah)(sh:List ah)(h0:aa fr 0=stV c zT aT fT a7 a8 a9 aw aA az (vsL m r1 r2 r3 c1 c2 c3 cr nb))(h1:aa fr 1= qi 1)(h2:aa fr 2=iT)(D:aa fr 7= qi 0)(r:aa fr 18= qi (l.length:Int))(F:aa fr 19= qi 0):
  qz 36 rP fr lh sh (.ext 0)∧
  (aa (nM pE 36 rP fr lh sh) 7= qi (fJ A l)∧je pE 36 rP fr lh sh=sh):=by
 refine eG (fun k st=> ∃(fr:Fr) (lh:aE ah) (n:Int),st=⟨fr,lh,sh⟩∧tb n ((l.drop k).map fun u=>u.2.val A)=fJ A l∧aa fr 0=stV c zT aT fT a7 a8 a9 aw aA az (vsL m r1 r2 r3 c1 c2 c3 cr nb)∧aa fr 1= qi 1∧aa fr 2=iT∧aa fr 7= qi n∧aa fr 18= qi (l.length:Int)∧aa fr 19= qi (k:Int))
  (fun O aN U=>aa O 7= qi (fJ A l)∧U=sh) _ l.length ?_ ?_ fr lh sh ⟨fr,lh,0,rfl,rfl,h0,h1,h2,D,r,F⟩
 ·rintro k _ hk ⟨fr,lh,n,rfl,I,h0,h1,h2,D,r,F⟩
  have J:(k:Int)<l.length:=zV
  have V:=aF (k:=k) zV
  obtain⟨b,W,X,K,Y,Z⟩:=(aa7 hr).2 k hk
  have hv:=N5 A iT dk l[k].2 b W X Y Z (iR _ (List.getElem_mem hk))
  rw[List.drop_eq_getElem_cons hk,List.map_cons,tb]at I
  generalize l[k]=u at*
  generalize u.2.val A=x at*
  have hz:=dk.froz
  unfold stV aO vsL at h0 ⊢
  simp only[List.cons_append,List.nil_append]at h0 ⊢
  simp only[qB,seval,eY,rP,h0,h1,h2,D,r,F,J,K,V,hv,hz,By]
  exact cZ ⟨_,_,_,rfl,I,by simp only[qA,seval,h0],by simp only[qA,seval,h1],by simp only[qA,seval,h2],by simp only[qA,seval],by simp only[qA,seval,r],by simp only[qA,seval]⟩
 ·rintro _ ⟨fr,lh,n,rfl,I,h0,h1,h2,D,r,F⟩
  rw[List.drop_length,List.map_nil,tb]at I
  simp only[qA,seval,rP,r,F,Int.lt_irrefl]
  exact fA ⟨rfl,by simp only[qA,seval,D,I],rfl⟩
def aa9(l:RL)(hr:Qa 3 l c1)(iR: ∀u∈l,IJ A u.2)(hlen:l.length≤1000):ae pE 114 [stV c zT aT fT a7 a8 a9 aw aA az (vsL m r1 r2 r3 c1 c2 c3 cr nb),qi 1,iT] []=some (qi (fJ A l),[]):=by
 have r:=fun fr lh sh h0 h1 h2 D F I=>aIj c zT aT fT a7 a8 a9 aw aA az m r1 r2 r3 c1 c2 c3 cr nb A iT dk l hr iR hlen fr lh sh h0 h1 h2 D F I
 have Eg:=Qv A iT dk
 have J:=(aa7 hr).1
 have hz:=dk.froz
 unfold stV aO vsL at*
 simp only[List.cons_append,List.nil_append]at*
 rw[au aiX (by simp[Vz])]
 simp only[qA,seval,eY,Vz,Eg,J,r,hz,axY]
end
structure Lg where
 du:List (Int×Bool)
 rp:Int
 rl:Int
 fr:List Nat
 to:List Nat
 co:Int
 cr:Int
def Eh(g:Lg)(v:T):List T:= [v,qi g.rp,qi g.rl,.s g.fr,.s g.to,qi g.co,qi g.cr]
def T5:Lg:=⟨[],0,0,[],[],0,0⟩
def iv(d:List (Int×Bool)):List T:=d.flatMap fun k=> [qi k.1,.b k.2]
theorem gY(d:List (Int×Bool)):(iv d).length=d.length*2:=iC (sz:=2) (fun _=>rfl) d
theorem Ht(a b:List (Int×Bool)):iv (a++b)=iv a++iv b:=by grind [iv]
theorem Qw: ∀{d:List (Int×Bool)} {D:List T},aD TkR d D→D=iv d
 | [],D,h=>h
 |k::d,D,h=>by
  obtain⟨c,r,rfl,h1,h2⟩:=h
  rw[TkR]at h1
  rw[h1,Qw h2];rfl
theorem Lc: ∀d:List (Int×Bool),aD TkR d (iv d)
 | []=>rfl
 |k::d=>⟨[qi k.1,.b k.2],iv d,rfl,rfl,Lc d⟩
def kK.sl{d:List (Int×Bool)}{v:T}(h:kK d v):IsSl v d.length (iv d):=by
 obtain⟨r,h1,h2⟩:=h
 rwa [Qw h2]at h1
theorem kK.of{d:List (Int×Bool)}{v:T}(h:IsSl v d.length (iv d)):kK d v:=⟨_,h,Lc d⟩
def sJ(c:Ct):RL:=uD c 1 c.ru.length
def Hu(c:Ct):RL:=tC c 1 c.co.length
def crS(c:Ct):RL:=TN c c.cr.length
def jy(t:Tt)(c:Ct)(d:List (Int×Bool)):Bool:=tD (aX t c d) (sJ c)
def cF(t:Tt)(c:Ct)(d:List (Int×Bool)):Lg:=⟨d,pX c (df t.fl d 0),pY c (df t.fl d (d.length-1)),(df t.fl d 0).fr,(df t.fl d (d.length-1)).to,fJ (aX t c d) (Hu c),zW (aX t c d) (crS c)⟩
def alz{t:Tt}{c:Ct}(hc:eH c=0){A:List Int}(hA:La A):(∀u∈sJ c,IJ A u.2)∧(∀u∈Hu c,IJ A u.2)∧(∀u∈crS c,IJ A u.2)∧(sJ c).length≤40∧(Hu c).length≤40:=by
 obtain⟨h1,h2,h3,h4,h5,h6,_⟩:=lP c hc
 unfold sJ Hu crS uD tC TN
 rw[List.take_length,List.take_length,List.take_length]
 refine⟨fun u r=> ?_,fun u r=> ?_,fun u r=> ?_, ?_, ?_⟩
 ·obtain⟨x,hx,rfl⟩:=List.mem_map.1 r
  grind [List.mem_filter.1,T4]
 ·obtain⟨x,hx,rfl⟩:=List.mem_map.1 r
  grind [List.mem_filter.1,T4]
 ·grind [List.mem_map.1,T4]
 ·grind
 ·grind
section
variable(t:Tt)(c:Ct)(zT aT fT a7 a8 a9 aw aA az:T)(vs:List T)(hT:jV t zT aT fT)(hV:Ea t c vs)(ht:np t=0)(hc:eH c=0)(d:List (Int×Bool))(dT:T)(hd:kK d dT)(h1:1≤d.length)(hlen:d.length≤100)(bw: ∀k∈d,lQ t.fl.length k.1=true)
include hT ht hd h1 hlen bw
theorem aba: ∃i j r1 r2:_,∃(hi:i<t.fl.length) (r:j<t.fl.length),df t.fl d 0=t.fl[i]∧df t.fl d (d.length-1)=t.fl[j]∧(∀kk,iaV dT (.i kk 0) 2=some (.vp (qi (i:Int)::r1)))∧(∀kk,iaV dT (.i kk ((d.length-1:Nat):Int)) 2=some (.vp (qi (j:Int)::r2))):=by
 have _:=hT
 obtain⟨i,hi,I,J,_⟩:=eP (fB t ht).1 bw (k:=0) zV
 obtain⟨j,r,K,O,_⟩:=eP (fB t ht).1 bw (k:=d.length-1) zV
 obtain⟨r1,D⟩:=iH hd 0 zV
 obtain⟨r2,F⟩:=iH hd (d.length-1) zV
 rw[I]at D
 rw[K]at F
 exact⟨i,j,_,_,hi,r,J,O,D,F⟩
include hc
include hV
end
def dM{c:Ct}{fl:List Fl}{d:List (Int×Bool)}(h:cL c fl d=0):1≤d.length∧d.length≤6∧(∀k∈d,lQ fl.length k.1=true)∧kg c fl d=true:=by
 unfold cL at h
 split at h
 ·cases h
 split at h
 ·cases h
 split at h
 ·rename_i a
  split at h
  ·rename_i b;exact⟨by omega,by omega,List.all_eq_true.1 a,b⟩
  ·cases h
 ·cases h
def apx(t:Tt)(c:Ct)(d:List (Int×Bool)):Lg×Int:=if cL c t.fl d≠0 then(T5,cL c t.fl d)else if jy t c d=true then(cF t c d,0)else(T5,15)
def T6(t:Tt)(c:Ct)(d:List (Int×Bool)):Lg×Int:=if ee t c≠0 then(T5,ee t c)else apx t c d
def LgT(g:Lg)(v:T):Prop:=IsSl v g.du.length (iv g.du)
theorem Qx(t:Tt)(c:Ct)(d:List (Int×Bool)):(cF t c d).du=d:=rfl
section
variable(t:Tt)(c:Ct)(zT aT fT a7 a8 a9 aw aA az:T)(vs:List T)(hT:jV t zT aT fT)(hC:kR c a7 a8 a9 aw aA az)(hN:CY c)(d:List (Int×Bool))(dT:T)(hd:kK d dT)(hlen:d.length≤1000)
include hT hd hlen
include hC hN
end
section
variable{E:Env}{call:ku}{n:Nat}{fr:Fr}{lh:aE ah}{sh:List ah}{os:List aG}{d:Nat}
theorem Ld{sh:List ah}{v:ah}:bI sh sh.length v=sh++ [v]:=by
 induction sh with
 |nil=>rfl
 |cons e l ih=>rw[List.length_cons,sF,ih];rfl
theorem ahb{sh:List ah}{v:ah}{k:Nat}(h:k=sh.length):bI sh k v=sh++ [v]:=by rw[h];exact Ld
end
theorem qa{α:Type}(v:α): ∀(cs:List α) (i:Nat),i<cs.length→splice cs i [v]=cs.set i v
 |c::cs,0,_=>by simp[splice]
 |c::cs,i+1,h=>by simp[splice,qa v cs i (by simpa using h)]
def inB(N:Nat)(l:List Int):List Bool:=(List.range N).map fun(i:Nat)=>decide ((i:Int)∈l)
def yJ(l:List Bool):List T:=l.map T.b
theorem wW(N:Nat)(l:List Int):(yJ (inB N l)).length=N:=by simp[yJ,inB]
theorem ahc(N:Nat):yJ (inB N [])=List.replicate N (.b false):=by
 simp only[yJ,inB,List.map_map]
 exact List.eq_replicate_iff.2 ⟨by simp,fun b r=>by
  obtain⟨i,_,rfl⟩:=List.mem_map.1 r
  simp⟩
def abb(N:Nat)(l:List Int)(x:Int)(h0:0≤x)(hN:x<N):splice (yJ (inB N l)) x.toNat [.b true]=yJ (inB N (l++ [x])):=by
 rw[qa _ _ _ (by rw[wW];omega)]
 refine List.ext_getElem (by simp[yJ,inB]) fun i h1 h2=> ?_
 rw[List.getElem_set]
 simp only[yJ,inB,List.getElem_map,List.getElem_range,List.mem_append,List.mem_singleton]
 by_cases e:x.toNat=i
 ·rw[if_pos e]
  have:(i:Int)=x:=zV
  simp[this]
 ·rw[if_neg e]
  have: ¬(i:Int)=x:=zV
  simp[this]
def fb(N:Nat)(r:Nat→Int):List T:=(List.range N).map fun(g:Nat)=>qi (r g)
def rfs(r N:Nat):List T:= [.isl .S r 1 0 N 1,.isl .S (r+1) 1 0 N 1,.isl .S (r+2) 1 0 N 1,.isl .S (r+3) 1 0 N 1,.isl .S (r+4) 1 0 N 1,.isl .S (r+5) 1 0 N 1,.isl .S (r+6) 1 0 N 1]
def wX(N:Nat)(r:Nat→Int){f:Nat}(D:f<N):(fb N r)[f]? =some (qi (r f)):=by
 unfold fb;rw[List.getElem?_map,List.getElem?_range D];rfl
theorem oL(N:Nat)(r:Nat→Int):(fb N r).length=N:=by simp[fb]
def Le(N:Nat)(r:Nat→Int)(f:Nat)(v:Int)(D:f<N):splice (fb N r) f [qi v]=fb N fun g=>if g=f then v else r g:=by
 rw[qa _ _ _ (by rw[oL];exact D)]
 refine List.ext_getElem (by simp[fb]) fun i h1 h2=> ?_
 rw[List.getElem_set]
 simp only[fb,List.getElem_map,List.getElem_range]
 by_cases e:f=i
 ·subst e;simp
 ·rw[if_neg e,if_neg (fun h=>e h.symm)]
theorem gse(R:List ah)(i j:Nat)(e:ah):aI (bI R i e) j=if j=i then e else aI R j:=oc _ _ _ _ _
structure Cc (sh:List ah) (N H rb a kT:Nat) (Qy:T) (n:Nat→Nat→Int) (t:Int):Prop where
 g0:aI sh 0=⟨1,.cells [qi (H:Int)] 0 true⟩
 g1:aI sh 1=⟨1,.cells [Qy] 0 true⟩
 gA:aI sh a=⟨1,.cells (rfs rb N) 0 true⟩
 gT:aI sh kT=⟨1,.cells [qi t] 0 true⟩
 gR: ∀i,i<7→aI sh (rb+i)=⟨1,.cells (fb N (n i)) 0 false⟩
 b:rb+7≤sh.length∧kT<sh.length
def C9{N:Nat}{r s:Nat→Int}(h: ∀g,r g=s g):fb N r=fb N s:=by rw[show r=s from funext h]
def qK{E:Env}{n:Nat}{a:ak}{m:Nat}(r:dR (bO (.loop a))=m){fr:Fr}{lh:aE ah}{sh:List ah}{D:Option (Out×St)}(F:DC E n (.loop a) ⟨fr,lh,sh⟩=D){o:Out}{P:Fr→aE ah→List ah→Prop}(h:Lp E n a fr lh sh o P):
  ∃f l s,D=some (o,⟨f,l,s⟩)∧P f l s∧ ∀j,(m >>> j)%2=0→aa f j=aa fr j:=
 ⟨_,_,_,F.symm.trans h.1,h.2,fun j I=>Fi (by rw[r];exact I)⟩
theorem sL{a b:List ah}{k:Nat}(h:k<a.length):aI (a++b) k=aI a k:=by
 induction a generalizing k with
 |nil=>simp at h
 |cons x xs ih=>
  cases k with
  |zero=>rfl
  |succ k=>rw[List.cons_append,sE,sE,ih (by simpa using h)]
def FF{a b:List ah}{k:Nat}:aI (a++b) (a.length+k)=aI b k:=by
 induction a with
 |nil=>rw[List.nil_append,List.length_nil,Nat.zero_add]
 |cons x xs ih=>rw[List.cons_append,List.length_cons,show xs.length+1+k=(xs.length+k)+1 by omega,sE,ih]
structure Cr (sh:List ah) (N H:Nat) (Qy:T) (rn:Nat) (now:Nat→Nat→Int) (t:Int):Prop where
 g0:aI sh 0=⟨1,.cells [qi (H:Int)] 0 true⟩
 g1:aI sh 1=⟨1,.cells [Qy] 0 true⟩
 gB:aI sh 9=⟨1,.cells (rfs rn N) 0 true⟩
 gT:aI sh 10=⟨1,.cells [qi t] 0 true⟩
 gR: ∀i,i<7→aI sh (rn+i)=⟨1,.cells (fb N (now i)) 0 false⟩
 b:11≤sh.length∧rn+7≤sh.length∧(rn=2∨11≤rn)
section
variable(N H:Nat)(Qy nT:T)(cp:Nat→Bool)(nx:Nat→List Nat)(jf: ∀f,f<N→ ∃q,∀kk,iaV Qy (.i kk (f:Int)) 1=some (.vp (.b (cp f)::q)))(iK: ∀f,f<N→ ∃gT q,(∀kk,iaV nT (.i kk (f:Int)) 1=some (.vp (gT::q)))∧IsSl gT (nx f).length (ints ((nx f).map Int.ofNat))∧(nx f).length≤1000∧ ∀g∈nx f,g<N)(hH:H≤6)(hN:N≤1000)
include jf iK hH hN
end
section
variable(t:Tt)(c:Ct)(zT aT fT a7 a8 a9 aw aA az:T)(vs:List T)(hT:jV t zT aT fT)
def aIk(hT:jV t zT aT fT)(d:List (Int×Bool))(dT:T)(hd:kK d dT)(hlen:d.length≤1000)(r:Bool)(hr:r=d.all fun k=>lQ t.fl.length k.1)(o:Out)(U:o=if r=true then .ext 0 else .ret)(fr:Fr)(lh:aE ah)(sh:List ah)
  (h0:aa fr 0=stV c zT aT fT a7 a8 a9 aw aA az vs) (F:aa fr 16=dT) (D:aa fr 17= qi (d.length:Int)) (I:aa fr 18= qi 0):
  qz 48 tK fr lh sh o∧((r=false→aa (nM pE 48 tK fr lh sh) 4= qi 6)∧je pE 48 tK fr lh sh=sh):=by
 refine eG (fun k st=> ∃(fr:Fr) (lh:aE ah),st=⟨fr,lh,sh⟩∧r=((d.drop k).all fun k=>lQ t.fl.length k.1)∧aa fr 0=stV c zT aT fT a7 a8 a9 aw aA az vs∧aa fr 16=dT∧aa fr 17= qi (d.length:Int)∧aa fr 18= qi (k:Int)) (fun V aN W=>(r=false→aa V 4= qi 6)∧W=sh) o d.length ?_ ?_ fr lh sh ⟨fr,lh,rfl,hr,h0,F,D,I⟩
 ·rintro k _ hk ⟨fr,lh,rfl,hr,h0,F,D,I⟩
  have J:(k:Int)<d.length:=zV
  have X:=aF (k:=k) zV
  obtain⟨rr,K⟩:=iH hd k hk
  rw[NN hk]at hr
  obtain⟨Y,Z,f2⟩:=hT.f
  have O:=aaG zT aT fT (aO c a7 a8 a9 aw aA az++vs) Y t.fl.length Z d[k].1
  rw[show decide (0≤d[k].1∧d[k].1<(t.fl.length:Int))=lQ t.fl.length d[k].1 from rfl]at O
  unfold stV at*
  generalize d[k]=y at*
  cases hv:lQ t.fl.length y.1 <;> rw[hv]at O hr <;> simp only[Bool.true_and,Bool.false_and]at hr
  all_goals simp only[qA,seval,tK,h0,F,D,I,J,X,K,O,axO]
  all_goals first
   |exact ue ⟨by rw[U,hr];rfl,fun _=>yk,rfl⟩
   |exact cZ ⟨_,_,rfl,hr,by simp only[qA,seval,h0],by simp only[qA,seval,F],by simp only[qA,seval,D],by simp only[qA,seval]⟩
 ·rintro _ ⟨fr,lh,rfl,hr,h0,F,D,I⟩
  rw[List.drop_length]at hr
  simp only[qA,seval,tK,D,I,Int.lt_irrefl]
  grind [fA]
def aIl(hT:jV t zT aT fT)(d:List (Int×Bool))(dT:T)(hd:kK d dT)(h1:1≤d.length)(hlen:d.length≤1000)(bw: ∀k∈d,lQ t.fl.length k.1=true)(r:Bool)(hr:r=kg c t.fl d)(o:Out)(K:o=if r=true then .ext 2 else .ret)(fr:Fr)(lh:aE ah)(sh:List ah)
  (h0:aa fr 0=stV c zT aT fT a7 a8 a9 aw aA az vs) (h1:aa fr 1=dT) (F:aa fr 7= qi 1):
  qz 48 xI fr lh sh o∧((r=false→aa (nM pE 48 xI fr lh sh) 4= qi 14)∧je pE 48 xI fr lh sh=sh):=by
 refine eG (fun k st=> ∃(fr:Fr),st=⟨fr,lh,sh⟩∧r=kg c t.fl (d.drop k)∧aa fr 0=stV c zT aT fT a7 a8 a9 aw aA az vs∧aa fr 1=dT∧aa fr 7= qi ((k+1:Nat):Int)) (fun O aN U=>(r=false→aa O 4= qi 14)∧U=sh) o (d.length-1) ?_ ?_ fr lh sh ⟨fr,rfl,hr,h0,h1,F⟩
 ·rintro k _ hk ⟨fr,rfl,hr,h0,h1,F⟩
  have D:((k+1:Nat):Int)<d.length:=zV
  have V:=aF (k:=k+1) zV
  have CV:wr .i64 (((k+1:Nat):Int)-1)=(k:Int):=by rw[aZ zV];omega
  obtain⟨W,I⟩:=iH hd k zV
  obtain⟨r2,Hl⟩:=iH hd (k+1) zV
  rw[Hm c t.fl (by omega:k+1<d.length)]at hr
  have J:=aaK t c zT aT fT a7 a8 a9 aw aA az vs hT (bw _ (List.getElem_mem (by omega:k<d.length))) (bw _ (List.getElem_mem (by omega:k+1<d.length)))
  unfold stV at*
  generalize d[k]=x at*
  generalize d[k+1]=y at*
  cases hv:nv c t.fl x.1 y.1 <;> rw[hv]at J hr <;> simp only[Bool.true_and,Bool.false_and]at hr
  all_goals simp only[qA,seval,bg,aH,xI,h0,h1,F,hd.choose_spec.1.lenI,D,V,CV,I,Hl,J,aGk,aGl]
  all_goals first
   |exact ue ⟨by rw[K,hr];rfl,fun _=>yk,rfl⟩
   |exact cZ ⟨_,rfl,hr,by simp only[qA,seval,h0],by simp only[qA,seval,h1],by simp only[qA,seval]⟩
 ·rintro _ ⟨fr,rfl,hr,h0,h1,F⟩
  rw[Qe c t.fl zV]at hr
  have D: ¬((d.length-1+1:Nat):Int)<d.length:=zV
  simp only[qA,seval,xI,h1,F,hd.choose_spec.1.lenI,D]
  grind [fA]
def abc(hT:jV t zT aT fT)(d:List (Int×Bool))(dT:T)(hd:kK d dT)(hlen:d.length≤1000):ae pE 36 [stV c zT aT fT a7 a8 a9 aw aA az vs,dT] []=some (qi (cL c t.fl d),[]):=by
 have TQ:=fun fr lh sh h0 F I J=>aIk t c zT aT fT a7 a8 a9 aw aA az vs hT d dT hd hlen _ rfl _ rfl fr lh sh h0 F I J
 have CW:=hd.choose_spec.1.lenI
 rw[au axv (by simp[c36])]
 unfold cL
 cases D:d.all fun k=>lQ t.fl.length k.1 <;> rw[D]at TQ
 ·simp only[qB,seval,c36,TQ,CW,itI]
 ·by_cases h1:1≤d.length
  ·have KX:=fun fr lh sh h0 r K=>aIl t c zT aT fT a7 a8 a9 aw aA az vs hT d dT hd h1 hlen (List.all_eq_true.1 D) _ rfl _ rfl fr lh sh h0 r K
   cases hc:kg c t.fl d <;> rw[hc]at KX
   all_goals simp only[qB,seval,c36,Vm,KX,TQ,CW,itI]
  ·have r:(d.length:Int)<1:=zV
   simp only[qB,seval,c36,CW,r]
end
def fO(A:List Int)(l:RL):List (List Nat):=(l.filter fun u=>decide (u.2.val A=0)).map Prod.fst
def Lf(A:List Int)(l:RL):fO A l= []↔tD A l=true:=by
 unfold fO tD
 rw[List.map_eq_nil_iff,List.filter_eq_nil_iff,List.all_eq_true]
 simp
theorem abd(A:List Int)(l:RL)(k:Nat)(h:k<l.length):fO A (l.take (k+1))=if l[k].2.val A=0 then fO A (l.take k)++ [l[k].1]else fO A (l.take k):=by
 unfold fO
 rw[List.take_succ_eq_append_getElem h,List.filter_append,List.map_append]
 by_cases h0:l[k].2.val A=0 <;> simp[h0]
def Qz(A:List Int)(l:RL):(fO A l).length≤l.length:=by
 unfold fO
 rw[List.length_map]
 exact List.length_filter_le _ _
section
variable(c:Ct)(zT aT fT a7 a8 a9 aw aA az m r1 r2 r3 c1 c2 c3 cr nb:T)(A:List Int)(iT:T)(dk:IsSl iT A.length (ints A))
include dk
def aIm(l:RL)(hr:Qa 4 l r1)(iR: ∀u∈l,IJ A u.2)(hlen:l.length≤1000)(fr:Fr)(lh:aE ah)(sh:List ah)(h0:aa fr 0=stV c zT aT fT a7 a8 a9 aw aA az (vsL m r1 r2 r3 c1 c2 c3 cr nb))(h1:aa fr 1= qi 1)(h2:aa fr 2=iT)(Y:aa fr 7= .nilsl)(O:aa fr 19= qi (l.length:Int))(U:aa fr 20= qi 0):
  Lp pE 46 tQ fr lh sh (.ext 0) fun f q s=>s=sh∧aW q (aa f 7) 43 1 (fO A l).length ((fO A l).map T.s):=by
 refine bK Jq (fun k f q s=>aa f 20= qi (k:Int)∧s=sh∧aW q (aa f 7) 43 1 (fO A (l.take k)).length ((fO A (l.take k)).map T.s)) l.length ⟨U,rfl,by rw[Y];exact aW.nil⟩ ?_ ?_
 ·rintro k f q _ hk K ⟨r,rfl,D⟩
  have F:(k:Int)<l.length:=zV
  have W:=aF (k:=k) zV
  obtain⟨b,Z,rr,I,fg,sH⟩:=(aa6 hr).2 k hk
  have hv:=N5 A iT dk l[k].2 b Z rr fg sH (iR _ (List.getElem_mem hk))
  have hz:=dk.froz
  have UX:=Qz A (l.take k)
  rw[List.length_take]at UX
  have V:=fun(x:T) (aN:aE ah) (aR:List ah) (e:ab aN 43=ab q 43)=>de (sh:=aR) (D.congr e) [x] rfl (bytes:=16) (by unfold roomy;omega) true
  have X:=D.notS
  rw[abd A l k hk]
  generalize fO A (l.take k)=B at*
  generalize J:aa f 7=v7 at D V X
  generalize l[k]=u at*
  generalize u.2.val A=x at*
  unfold stV aO vsL at h0
  simp only[List.cons_append,List.nil_append]at h0
  by_cases hx:x=0
  ·simp(maxDischargeDepth:=6) only[qA,seval,gd,repl,eY,tQ,K,h0,h1,h2,O,r,J,F,I,W,hv,hz,By,hx,V,X]
   obtain⟨_,k1,k2⟩:=V (.s u.1) q _ rfl
   rw[show(B++ [u.1]).map T.s=B.map T.s++ [.s u.1]by simp,show(B++ [u.1]).length=B.length+1 by simp]
   exact k1
  ·simp(maxDischargeDepth:=6) only[qA,seval,gd,eY,tQ,K,h0,h1,h2,O,r,J,F,I,W,hv,hz,By,hx]
   exact D
 ·rintro f q _ K ⟨r,rfl,D⟩
  rw[List.take_length]at D
  simp only[qA,seval,gd,tQ,K,O,r,Int.lt_irrefl]
  exact D
def apz(l:RL)(hr:Qa 4 l r1)(iR: ∀u∈l,IJ A u.2)(hlen:l.length≤1000):ae pE 85 [stV c zT aT fT a7 a8 a9 aw aA az (vsL m r1 r2 r3 c1 c2 c3 cr nb),qi 1,iT] []=some (bj (fO A l).length ((fO A l).map T.s),[]):=by
 have r:=fun fr lh sh=>aIm c zT aT fT a7 a8 a9 aw aA az m r1 r2 r3 c1 c2 c3 cr nb A iT dk l hr iR hlen fr lh sh
 have Eg:=Qv A iT dk
 have F:=(aa6 hr).1
 have hz:=dk.froz
 unfold stV aO vsL at*
 simp only[List.cons_append,List.nil_append]at*
 rw[au ax1 (by simp[c85])]
 simp(maxDischargeDepth:=6) only[qA,seval,eY,c85,Eg,F,hz,axY]
 generalize I:DC pE 46 (.loop tQ) _=D
 obtain⟨K,O,s2,rfl,⟨rfl,J⟩,U⟩:=qK Jq I (r _ _ _ yk yk yk yk yk yk)
 have e:=J.fzV (sh:=([]:List ah)) (keep:=false)
 simp(maxDischargeDepth:=6) only[qA,wD,seval,e]
end
def T7(l:List (List Nat)):List T:=l.flatMap fun s=> [qi 1,qi 0,.s s]
def aCf(l:List (List Nat))(hlen:l.length≤1000):ae pE 84 [.nilsl,qi 1,qi 0,bj l.length (l.map T.s)] []=some (bj l.length (T7 l),[]):=by
 have J:IsSl (bj l.length (l.map T.s)) l.length (l.map T.s):=dX fun h=>by rw[List.length_eq_zero_iff.1 h];rfl
 have Z:=J.lenI
 have hz:=J.froz
 have hL: ∀fr lh sh,aa fr 0= .nilsl→aa fr 1= qi 1→aa fr 2= qi 0→aa fr 11=bj l.length (l.map T.s)→aa fr 12= qi (l.length:Int)→aa fr 13= qi 0→Lp pE 26 xU fr lh sh (.ext 0) fun f q s=>s=sh∧aW q (aa f 0) 23 3 l.length (T7 l):=by
  intro fr lh sh h0 h1 h2 K I ij
  refine bK Jp (fun k f q s=>aa f 13= qi (k:Int)∧s=sh∧aW q (aa f 0) 23 3 k (T7 (l.take k))) l.length ⟨ij,rfl,by rw[h0];exact aW.nil⟩ ?_ ?_
  ·rintro k f q _ hk O ⟨F,rfl,r⟩
   have U:(k:Int)<l.length:=zV
   have hw:=aF (k:=k) zV
   have W:=fun kk=>J.ia (sz:=1) (k:=k) (kk:=kk) (by rw[List.length_map,Nat.mul_one]) hk
   rw[Nat.mul_one,List.drop_eq_getElem_cons (by rw[List.length_map];exact hk),List.getElem_map]at W
   have X:=fun(x:T) (aN:aE ah) (aR:List ah) (e:ab aN 23=ab q 23)=>de (sh:=aR) (r.congr e) [qi 1,qi 0,x] rfl (bytes:=32) (by unfold roomy;omega) true
   have Y:=r.notS
   rw[List.take_succ_eq_append_getElem hk,show T7 (l.take k++ [l[k]])=T7 (l.take k)++ [qi 1,qi 0,.s l[k]]by unfold T7;rw[List.flatMap_append];rfl]
   generalize T7 (l.take k)=B at*
   generalize V:aa f 0=v7 at r X Y
   simp(maxDischargeDepth:=6) only[qA,seval,gd,repl,xU,O,h1,h2,K,I,F,V,U,W,hw,X,Y]
  ·rintro f q _ O ⟨F,rfl,r⟩
   rw[List.take_length]at r
   simp only[qA,seval,gd,xU,O,I,F,Int.lt_irrefl]
   exact r
 rw[au ax0 (by simp[c84])]
 simp(maxDischargeDepth:=6) only[qA,seval,c84,Z]
 generalize hD:DC pE 26 (.loop xU) _=D
 obtain⟨f2,l2,s2,rfl,⟨rfl,r⟩,fR⟩:=qK Jp hD (hL _ _ _ yk yk yk yk yk yk)
 have e:=r.fzV (sh:=([]:List ah)) (keep:=false)
 simp(maxDischargeDepth:=6) only[qA,wD,seval,e]
section
variable(t:Tt)(c:Ct)(zT aT fT a7 a8 a9 aw aA az:T)(hT:jV t zT aT fT)(hC:kR c a7 a8 a9 aw aA az)(hA:CY c)(hk:ee t c=0)(d:List (Int×Bool))(dT:T)(hd:kK d dT)(hlen:d.length≤1000)
include hT hC hA hk hd hlen
def QA: ∃vs,ae pE 45 [.agg [zT,aT,fT],.agg (aO c a7 a8 a9 aw aA az),dT] []=some (if cL c t.fl d=0 then .tup [stV c zT aT fT a7 a8 a9 aw aA az vs,qi 0]else .tup [.nilptr,qi (cL c t.fl d)],[])∧Ea t c vs:=by
 obtain⟨s,vs,e1,D⟩:=aaM t c zT aT fT a7 a8 a9 aw aA az hT hC hA hk
 refine⟨vs, ?_,D⟩
 have hz:=Aj t c zT aT fT a7 a8 a9 aw aA az hT hC
 have r:=hd.sl.froz
 have e2:=abc t c zT aT fT a7 a8 a9 aw aA az vs hT d dT hd hlen
 have II:=pT c zT aT fT a7 a8 a9 aw aA az vs
 have T8:froz1 (stV c zT aT fT a7 a8 a9 aw aA az vs)=true:=rfl
 generalize cL c t.fl d=E at*
 unfold aO at*
 rw[au axC (by simp[c45])]
 by_cases hE:E=0
 all_goals simp(maxDischargeDepth:=6) only[qA,seval,c45,hz,e1,e2,amV,axw,r,II,T8,hE]
def QB:ae pE 14 [.agg [zT,aT,fT],.agg (aO c a7 a8 a9 aw aA az),dT] []=some (if cL c t.fl d=0 then .tup [bj (fO (aX t c d) (sJ c)).length (T7 (fO (aX t c d) (sJ c))),qi 0]else .tup [.nilsl,qi (cL c t.fl d)],[]):=by
 obtain⟨vs,e1,hS⟩:=QA t c zT aT fT a7 a8 a9 aw aA az hT hC hA hk d dT hd hlen
 have hz:=Aj t c zT aT fT a7 a8 a9 aw aA az hT hC
 have r:=hd.sl.froz
 have II:=pT c zT aT fT a7 a8 a9 aw aA az vs
 have T8:froz1 (stV c zT aT fT a7 a8 a9 aw aA az vs)=true:=rfl
 by_cases hE:cL c t.fl d=0
 ·obtain⟨h1,h6,bw,_⟩:=dM hE
  obtain⟨ht,hc⟩:=um t c zT aT fT a7 a8 a9 aw aA az hT hC hA hk
  obtain⟨s1,F⟩:=aa2 t c zT aT fT a7 a8 a9 aw aA az vs hT hS ht hc d dT hd h1 zV bw
  have J:=wV (t:=t) (c:=c) ht hc h1 (show d.length≤100 by omega) bw
  obtain⟨g1,g2,g3,g4,g5⟩:=alz (t:=t) hc J
  have dk:IsSl (.sl (ints (aX t c d)) 11 false) (aX t c d).length (ints (aX t c d)):= .inr ⟨false,by rw[J.1]⟩
  have UX:=Qz (aX t c d) (sJ c)
  obtain⟨q,r1,r2,r3,c1,c2,c3,cr,nb,D,_,_,K,_,_,O,_,_,U⟩:=hS
  have D:vs=vsL (.vm (q.map fun p=>sK p.1) (q.map fun p=>T.agg p.2)) r1 r2 r3 c1 c2 c3 cr (.b nb):=D
  have W:=apz c zT aT fT a7 a8 a9 aw aA az (.vm (q.map fun p=>sK p.1) (q.map fun p=>T.agg p.2)) r1 r2 r3 c1 c2 c3 cr (.b nb) _ _ dk (sJ c) K g1 zV
  rw[←D]at W
  have hv:=aCf (fO (aX t c d) (sJ c)) zV
  have X:froz (bj (fO (aX t c d) (sJ c)).length ((fO (aX t c d) (sJ c)).map T.s))=true:=by unfold bj;split <;> rfl
  have Y:froz1 (bj (fO (aX t c d) (sJ c)).length (T7 (fO (aX t c d) (sJ c))))=true:=by unfold bj;split <;> rfl
  have Z:froz (bj (fO (aX t c d) (sJ c)).length (T7 (fO (aX t c d) (sJ c))))=true:=by unfold bj;split <;> rfl
  rw[if_pos hE]at e1 ⊢
  generalize bj (fO (aX t c d) (sJ c)).length (T7 (fO (aX t c d) (sJ c)))=V at*
  generalize bj (fO (aX t c d) (sJ c)).length ((fO (aX t c d) (sJ c)).map T.s)=B at*
  have hcd:ae pE 46 [stV c zT aT fT a7 a8 a9 aw aA az vs,dT] []=some (V,[]):=by
   rw[au axD (by simp[c46])]
   have hiz:froz (.sl (ints (aX t c d)) 11 false)=true:=rfl
   generalize ints (aX t c d)=I at*
   simp(maxDischargeDepth:=6) only[qA,seval,c46,F,W,hv,axB,aGr,aGs,r,II,X,Z,hiz]
  clear W hv F dk K O U g1 g2 g3
  generalize stV c zT aT fT a7 a8 a9 aw aA az vs=S at*
  unfold aO at*
  rw[au aea (by simp[c14])]
  simp(maxDischargeDepth:=6) only[qA,seval,c14,hz,e1,hcd,amW,aF6,r,II,Y]
 ·rw[if_neg hE]at e1 ⊢
  generalize cL c t.fl d=E at*
  unfold aO at*
  rw[au aea (by simp[c14])]
  simp(maxDischargeDepth:=6) only[qA,seval,c14,hz,e1,amW,r,hE]
end
def kU(fl:List Fl)(d:List (Int×Bool)):Nat→qJ
 |0=>ta (yI d 0)
 |k+1=>if k=0 then jW (df fl d k) (yI d k) (kU fl d k)else oH (df fl d (k-1)) (df fl d k) (yI d k) (kU fl d k)
theorem Da(s x:List Nat): ∀l:List (List Nat),x∈insS s l↔x=s∨x∈l
 | []=>by simp[insS]
 |y::r=>by
  rw[insS]
  have:=Da s x r
  grind
theorem Db: ∀a b c:List Nat,lessN a b=true→lessN b c=true→lessN a c=true
 | [],[],_,h,_=>by simp[lessN]at h
 | [],_::_,[],_,h=>by simp[lessN]at h
 | [],_::_,_::_,_,_=>rfl
 |_::_,[],_,h,_=>by simp[lessN]at h
 |_::_,_::_,[],_,h=>by simp[lessN]at h
 |x::a,y::b,z::c,h1,h2=>by
  have:=Db a b c
  simp[lessN]at h1 h2 ⊢
  grind
theorem N6(s:List Nat): ∀(r:List (List Nat)) (y:List Nat),ascN (y::r)=true→lessN s y=true→s∉y::r
 | [],y,_,h1,h2=>by
   rw[List.mem_singleton.1 h2,rD]at h1;cases h1
 |z::r,y,h,h1,h2=>by
  rw[ascN,Bool.and_eq_true]at h
  rcases List.mem_cons.1 h2 with rfl|h2
  ·rw[rD]at h1;cases h1
  ·exact N6 s r z h.2 (Db _ _ _ h1 h.1) h2
theorem abe{y:List Nat}: ∀{r:List (List Nat)},ascN (y::r)=true→ascN r=true
 | [],_=>rfl
 |_::_,h=>by
  rw[ascN,Bool.and_eq_true]at h
  exact h.2
theorem FG(s:List Nat): ∀l:List (List Nat),ascN l=true→(insS s l).length=if s∈l then l.length else l.length+1
 | [],_=>by simp[insS]
 |y::r,h=>by
  have ih:=FG s r (abe h)
  have D:=N6 s r y h
  rw[insS]
  by_cases h1:lessN y s=true
  ·have:s≠y:=fun e=>by rw[e,rD]at h1;cases h1
   rw[if_pos h1,List.length_cons,ih]
   simp only[List.mem_cons,this,false_or]
   split <;> rfl
  ·rw[if_neg h1]
   by_cases h2:y=s
   ·rw[if_pos h2,if_pos (by rw[h2];exact List.mem_cons_self ..)]
   ·rw[if_neg h2]
    have h3:lessN s y=true:=by
     cases hc:lessN s y with
     |true=>rfl
     |false=>exact absurd (wO y s (by simpa using h1) hc) h2
    rw[if_neg (D h3)]
    rfl
def T9(s:qJ)(c:Cn):Prop:=s.lg=c.lg∧s.hd=c.hd∧s.bl=c.bk∧s.lo=c.lo∧s.so=c.so∧(∀x,x∈s.ty↔x∈c.ks)∧s.ty.length=c.ks.length
def Lh{f:Fl}{k:Int×Bool}{s:qJ}{c:Cn}(h:T9 s c)(r:ascN s.ty=true):T9 (jW f k s) (Hp f k.2 c):=by
 obtain⟨h1,h2,h3,h4,h5,h6,D⟩:=h
 have:=Da f.ty
 have F:=FG f.ty s.ty r
 unfold T9 jW Hp
 cases k.2
 ·simp only[Bool.false_eq_true,if_false]
  refine⟨by omega,h2,by omega,h4,h5,fun x=> ?_, ?_⟩
  ·rw[this,adK];grind
  ·rw[F,adK];grind
 ·simp only[if_true]
  exact⟨h1,by omega,h3,h4,h5,h6,D⟩
def abf{f g:Fl}{k:Int×Bool}{s:qJ}{c:Cn}(h:T9 s c)(r:ascN s.ty=true):T9 (oH f g k s) (T1 f g (Hp g k.2 c)):=by
 rw[←aIg]
 obtain⟨h1,h2,h3,h4,h5,h6,D⟩:=h
 exact Lh ⟨h1,h2,h3,by rw[T1,h4],by rw[T1,h5],h6,D⟩ r
theorem Lj{c:Ct}{fl:List Fl}{d:List (Int×Bool)}(h:kg c fl d=true): ∀i,i<d.length→kg c fl (d.drop i)=true
 |0,_=>h
 |i+1,hi=>by
  have:=Lj h i zV
  rw[Hm c fl hi,Bool.and_eq_true]at this
  exact this.2
def StI(fl:List Fl)(d:List (Int×Bool))(k:Nat)(s:qJ):Prop:=Ed fl.length s=true∧s.lg+s.hd=(k:Int)+1∧s.bl≤1440*((k:Int)+1)∧s.lf=(yI d k).1∧s.ff=(yI d 0).1∧s.ty.length≤k+1∧T9 s (lq fl d (k+1))
def StI.asc{fl:List Fl}{d:List (Int×Bool)}{k:Nat}{s:qJ}(h:StI fl d k s):ascN s.ty=true:=KS _ _ (my.1 h.1).2.2.2.2.2.2.2.2
def aCh(f:Fl)(k:Int×Bool)(s:qJ):(jW f k s).ty.length≤s.ty.length+1:=by
 unfold jW
 split
 ·exact Nat.le_succ _
 ·exact KT _ _
theorem QC(f:Fl)(k:Int×Bool)(s:qJ):(jW f k s).ff=s.ff:=by
 unfold jW;split <;> rfl
theorem Hv{c:Ct}(hc:0≤c.cn∧c.st≤1440){fl:List Fl}(D: ∀f∈fl,oI f){d:List (Int×Bool)}(h6:d.length≤6)(bw: ∀k∈d,lQ fl.length k.1=true)(F:kg c fl d=true): ∀k,k<d.length→StI fl d k (kU fl d (k+1))
 |0,hk=>by
  obtain⟨i,hi,e,I,_⟩:=eP D bw hk
  rw[←mB hk]at e
  have hs:kU fl d (0+1)=jW (df fl d 0) (yI d 0) (ta (yI d 0)):=rfl
  have r:lq fl d (0+1)=Hp (df fl d 0) (yI d 0).2 cn0:=rfl
  rw[hs,I]
  unfold StI
  obtain⟨J,K,W,O⟩:=agU fl D (yI d 0) i hi e
  refine⟨J,by rw[K];rfl,by simpa using W,by rw[O,e],by rw[QC];rfl,aCh _ _ _, ?_⟩
  rw[r,I]
  exact Lh ⟨rfl,rfl,rfl,rfl,rfl,fun x=>by simp[ta,cn0],rfl⟩ rfl
 |k+1,hk=>by
  have ih:=Hv hc D h6 bw F k zV
  obtain⟨i,hi,e,I,_⟩:=eP D bw (k:=k) zV
  obtain⟨j,X,e2,Y,_⟩:=eP D bw hk
  have hs:kU fl d (k+1+1)=oH (df fl d k) (df fl d (k+1)) (yI d (k+1)) (kU fl d (k+1)):=by rw[kU,if_neg zV];rfl
  have r:lq fl d (k+1+1)=T1 (df fl d k) (df fl d (k+1)) (Hp (df fl d (k+1)) (yI d (k+1)).2 (lq fl d (k+1))):=by rw[lq,if_neg zV];rfl
  have U:Ai c fl[i] fl[j]=true:=by
   have:=Lj F k zV
   rw[Hm c fl hk,Bool.and_eq_true,e,e2,oJ c fl hi X]at this
   exact this.1
  have V:=ih.asc
  obtain⟨Z,p2,p3,p4,p5,p6,p7⟩:=ih
  rw[hs]
  unfold StI
  rw[r]
  rw[←mB hk]at e2
  obtain⟨J,K,W,O⟩:=agV c hc fl D (yI d (k+1)) _ i j hi X e2 Z U zV (by unfold U5;omega)
  rw[I,Y]
  refine⟨J,by rw[K,p2];simp,by simp;omega,by rw[O,e2],by rw[oH,QC];exact p5,Nat.le_trans (aCh _ _ _) (Nat.succ_le_succ p6), ?_⟩
  exact abf p7 V
def abg(t:Tt)(c:Ct)(s:qJ):List Int:=
 [s.lg,s.hd,s.ty.length,s.bl,pY c (NP t.fl s.lf)-pX c (NP t.fl s.ff),Ef t c (NP t.fl s.ff) (NP t.fl s.lf),s.lo,s.so,Ho t c (NP t.fl s.ff) (NP t.fl s.lf),K6 t c (NP t.fl s.ff),K7 t c (NP t.fl s.lf)]
theorem FH{t:Tt}{c:Ct}{d:List (Int×Bool)}(h1:1≤d.length){s:qJ}(h:StI t.fl d (d.length-1) s):abg t c s=aX t c d:=by
 obtain⟨_,_,_,h4,h5,_,h6,F,I,J,r,_,D⟩:=h
 rw[Nat.sub_add_cancel h1]at*
 unfold abg aX df
 rw[h4,h5,h6,F,I,J,r,D]
theorem FI: ∀L:List (List Nat),strsE (L.map T.s)=some L
 | []=>rfl
 |x::L=>by rw[List.map_cons,strsE,FI L];rfl
def yK(L:List (List Nat)):T:=bj L.length (L.map T.s)
def dg(L:List (List Nat)):IsSl (yK L) L.length (L.map T.s):=dX fun h=>by rw[List.length_eq_zero_iff.1 h];rfl
def abh(L:List (List Nat)):tysL (yK L)=some L:=by
 cases L with
 |nil=>rfl
 |cons x r=>show(if(List.map T.s (x::r)).length=(x::r).length then strsE (List.map T.s (x::r))else none)=_;rw[if_pos yv,FI]
def ahg(L:List (List Nat)):slS (yK L) L=yK L:=by cases L <;> rfl
def ahh(s:List Nat)(L:List (List Nat)):T.sl ((insS s L).map T.s) (insS s L).length false=yK (insS s L):=by
 cases L with
 |nil=>rfl
 |cons x r=>unfold yK bj;rw[if_neg];rw[insS];split <;> simp;split <;> simp
def nS(s:qJ):T:= .agg (sZ s (yK s.ty))
theorem AP(s:qJ):froz (nS s)=true:=by unfold nS sZ yK bj;split <;> rfl
def ahi(s:qJ):Prop:=(0≤s.lg∧s.lg≤100)∧(0≤s.hd∧s.hd≤100)∧(0≤s.bl∧s.bl≤1099511640000)∧ascN s.ty=true∧s.ty.length≤1000
theorem StI.w{fl:List Fl}{d:List (Int×Bool)}{k:Nat}{s:qJ}(h:StI fl d k s)(hk:k≤900):ahi s:=by
 have r:=h.asc
 obtain⟨h1,_,_,_,_,h6,_⟩:=h
 obtain⟨_,_,D,F,_,I,_⟩:=my.1 h1
 unfold U5 at*
 exact⟨⟨D.1,by omega⟩,⟨F.1,by omega⟩,⟨I.1,by omega⟩,r,by omega⟩
section
variable(t:Tt)(c:Ct)(zT aT fT a7 a8 a9 aw aA az:T)(vs:List T)(hT:jV t zT aT fT)(iR: ∀f∈t.fl,oI f)
include hT iR
def abi(s:qJ)(hs:ahi s)(k:Int×Bool)(j:Nat)(K:j<t.fl.length)(hk:k.1=j)(z:Nat)(fr:Fr)(lh:aE ah)(sh:List ah):
  br pE (ae pE) z ⟨fr,lh,sh⟩ 76 [stV c zT aT fT a7 a8 a9 aw aA az vs,nS s,.agg [qi k.1,.b k.2]]=some (nS (jW t.fl[j] k s),⟨fr,lh,sh⟩):=by
 obtain⟨fc,V,W⟩:=hT.f
 obtain⟨r,F⟩:=nq V W j K
 have X:=iR _ (List.getElem_mem K)
 generalize t.fl[j]=f at*
 obtain⟨f0,q1,q2,q3,q4⟩:=X
 obtain⟨b1,b2,b3,O,U⟩:=hs
 obtain⟨kf,Y⟩:=k
 simp only at hk
 subst hk
 rw[Yx (g:=countE) rfl rfl,wi (by simp only[List.all_cons,List.all_nil,AP];rfl)]
 simp only[Option.bind_some]
 have D:=abh s.ty
 have Z:flAt fT (j:Int)=some (f.dp,f.ar,f.ty):=by unfold flAt;rw[F]
 have I:=ahg s.ty
 have J:=ahh f.ty s.ty
 cases Y with
 |true=>
  unfold nS sZ stV jW
  simp only[countE,D,O,decide_eq_true U,Bool.and_self,if_true,I,Option.bind_some]
  rw[aZ zV]
 |false=>
  unfold nS sZ stV jW
  simp only[countE,D,O,decide_eq_true U,Bool.and_self,if_true,Z,Bool.false_eq_true,if_false,J,Option.bind_some]
  rw[aZ (n:=s.lg+1) zV,aZ (n:=f.ar-f.dp) zV,aZ zV]
def Ua(k:Int×Bool)(j:Nat)(r:j<t.fl.length)(hk:k.1=j):
  ae pE 37 [stV c zT aT fT a7 a8 a9 aw aA az vs,.agg [qi k.1,.b k.2]] []=some (nS (jW t.fl[j] k (ta k)),[]):=by
 have h1:=fun z fr lh sh=>abi t c zT aT fT a7 a8 a9 aw aA az vs hT iR (ta k) (by unfold ahi ta;exact⟨⟨Int.le_refl _,(by decide:(0:Int)≤100)⟩,⟨Int.le_refl _,(by decide:(0:Int)≤100)⟩,⟨Int.le_refl _,(by decide:(0:Int)≤1099511640000)⟩,rfl,Nat.zero_le _⟩) k j r hk z fr lh sh
 have h2:nS (ta k)= .agg [qi k.1,.b k.2,qi 0,.b false,qi 0,qi 0,qi 0,qi 0,qi 1440,.nilsl]:=rfl
 rw[h2]at h1
 have h3:=(dg (jW t.fl[j] k (ta k)).ty).froz1
 rw[au axx (by simp[O3])]
 generalize jW t.fl[j] k (ta k)=D at*
 unfold nS sZ stV at*
 generalize yK D.ty=yT at*
 simp(maxDischargeDepth:=6) only[qA,seval,O3,h1,h3]
def ahj(s:qJ)(hs:ahi s)(k:Int×Bool)(i j:Nat)(hi:i<t.fl.length)(r:j<t.fl.length)(D:s.lf=i)(hk:k.1=j):
  ae pE 38 [stV c zT aT fT a7 a8 a9 aw aA az vs,nS s,.agg [qi k.1,.b k.2]] []=some (nS (oH t.fl[i] t.fl[j] k s),[]):=by
 obtain⟨r1,F⟩:=rz t c zT aT fT a7 a8 a9 aw aA az vs hT i hi
 obtain⟨r2,I⟩:=rz t c zT aT fT a7 a8 a9 aw aA az vs hT j r
 obtain⟨_,O,U,V,W⟩:=iR _ (List.getElem_mem hi)
 obtain⟨_,X,Y,Z,q4⟩:=iR _ (List.getElem_mem r)
 have J:wr .i64 (t.fl[j].dp-t.fl[i].ar)=t.fl[j].dp-t.fl[i].ar:=aZ zV
 have h1:=fun z fr lh sh=>abi t c zT aT fT a7 a8 a9 aw aA az vs hT iR {s with lo:=max s.lo (t.fl[j].dp-t.fl[i].ar),so:=min s.so (t.fl[j].dp-t.fl[i].ar)} hs k j r hk z fr lh sh
 rw[show jW t.fl[j] k {s with lo:=max s.lo (t.fl[j].dp-t.fl[i].ar),so:=min s.so (t.fl[j].dp-t.fl[i].ar)}=oH t.fl[i] t.fl[j] k s from rfl]at h1
 have h3:=(dg (oH t.fl[i] t.fl[j] k s).ty).froz1
 have h4:=(dg s.ty).froz1
 rw[au axy (by simp[c38])]
 rw[hk]at h1 ⊢
 generalize oH t.fl[i] t.fl[j] k s=K at*
 have II:=pT c zT aT fT a7 a8 a9 aw aA az vs
 unfold nS sZ at*
 rw[D]at h1 ⊢
 generalize t.fl[i]=f at*
 generalize t.fl[j]=g at*
 generalize yK K.ty=yT at*
 generalize yK s.ty=zT' at*
 simp(maxDischargeDepth:=6) only[qA,seval,bg,aH,c38,F,I,Gl,anf,J,II,h1,h3,h4,nz,qo]
end
def kK.tail{k:Int×Bool}{r:List (Int×Bool)}{v:T}(h:kK (k::r) v): ∃D,pG 2 v 1 (r.length+1)=some D∧kK r D:=by
 obtain⟨I,h1,h2⟩:=h
 obtain⟨p,q,rfl,e,h3⟩:=h2
 have F:=aD.len TkR.len h3
 rw[TkR]at e
 subst e
 rcases h1 with⟨_,h1,_⟩|⟨ex,rfl⟩
 ·simp at h1
 ·refine⟨_, ?_,q,.inr ⟨(ex&&decide (r.length+1=(k::r).length)),rfl⟩,h3⟩
  unfold pG
  simp only[List.length_cons]
  rw[if_pos ⟨by omega,by omega,by simp[F];omega⟩]
  simp only[Option.some.injEq,T.sl.injEq,and_true]
  exact⟨List.take_of_length_le (by simp[F]),by omega⟩
section
variable(t:Tt)(c:Ct)(zT aT fT a7 a8 a9 aw aA az:T)(hT:jV t zT aT fT)
include hT
def aCi(vs:List T)(iR: ∀f∈t.fl,oI f)(hc:0≤c.cn∧c.st≤1440)(x:Int×Bool)(r:List (Int×Bool))(h6:(x::r).length≤6)(bw: ∀k∈x::r,lQ t.fl.length k.1=true)(K:kg c t.fl (x::r)=true)(v':T)(hv:kK r v')(O:ah)(fr:Fr)(lh:aE ah)(sh:List ah)
  (h8:aa fr 8=stV c zT aT fT a7 a8 a9 aw aA az vs) (U:aa fr 11= .ptr .L 11 1 0) (xy:aa fr 37=v') (I:aa fr 38= qi (r.length:Int)) (V:aa fr 39= qi 0) (J:ab lh 6=O) (IK:ab lh 11=⟨1,.cells (sZ (kU t.fl (x::r) 1) (yK (kU t.fl (x::r) 1).ty)) 0 true⟩):
  Lp pE 49 xz fr lh sh (.ext 0) fun f l s=>s=sh∧ab l 6=O∧ab l 11=⟨1,.cells (sZ (kU t.fl (x::r) (r.length+1)) (yK (kU t.fl (x::r) (r.length+1)).ty)) 0 true⟩:=by
 have D:=Hv hc iR h6 bw K
 refine bK IW (fun k f l s=>aa f 39= qi (k:Int)∧s=sh∧ab l 6=O∧ab l 11=⟨1,.cells (sZ (kU t.fl (x::r) (k+1)) (yK (kU t.fl (x::r) (k+1)).ty)) 0 true⟩) r.length ⟨V,rfl,J,IK⟩ ?_ ?_
 ·rintro k f l _ hk W ⟨F,rfl,J,IK⟩
  have X:(k:Int)<r.length:=zV
  have hr6:r.length≤5:=by simpa using h6
  have hw:=aF (k:=k) zV
  obtain⟨rr,Y⟩:=iH hv k hk
  have Z:=D k (by simp;omega)
  have hJ:=D (k+1) (by simp;omega)
  obtain⟨i,hi,e,ef,_⟩:=eP iR bw (k:=k) (by simp;omega)
  obtain⟨j,hj,e2,eg,_⟩:=eP iR bw (k:=k+1) (by simp;omega)
  have hx:=ahj t c zT aT fT a7 a8 a9 aw aA az vs hT iR _ (Z.w zV) r[k] i j hi hj (by rw[Z.2.2.2.1,mB (by simp;omega),e]) (by simpa using e2)
  have hs:kU t.fl (x::r) (k+1+1)=oH t.fl[i] t.fl[j] r[k] (kU t.fl (x::r) (k+1)):=by
   rw[←ef,←eg,kU,if_neg zV,mB (by simp;omega)]
   rfl
  rw[←hs]at hx
  have II:=pT c zT aT fT a7 a8 a9 aw aA az vs
  have U0:=AP (kU t.fl (x::r) (k+1))
  have hy:=(dg (kU t.fl (x::r) (k+1+1)).ty).froz1
  have hy0:=(dg (kU t.fl (x::r) (k+1)).ty).froz1
  clear Z hJ hs D
  generalize kU t.fl (x::r) (k+1)=s0 at*
  generalize kU t.fl (x::r) (k+1+1)=s1 at*
  generalize r[k]=y at*
  unfold nS sZ at*
  generalize yK s0.ty=y0 at*
  generalize yK s1.ty=y1 at*
  simp(maxDischargeDepth:=6) only[qA,seval,gd,xz,W,h8,U,xy,I,F,J,IK,X,hw,Y,II,hx,aF4,hy0,hy,U0]
 ·rintro f l _ W ⟨F,rfl,J,IK⟩
  simp only[qA,seval,gd,xz,W,I,F,J,IK,Int.lt_irrefl]
def QD(hC:kR c a7 a8 a9 aw aA az)(hA:CY c)(hk:ee t c=0)(d:List (Int×Bool))(dT:T)(hd:kK d dT)(hE:cL c t.fl d=0): ∃s,ae pE 10 [.agg [zT,aT,fT],.agg (aO c a7 a8 a9 aw aA az),dT] []=some (.tup [nS (kU t.fl d d.length),qi 0],s):=by
 have hz:=Aj t c zT aT fT a7 a8 a9 aw aA az hT hC
 obtain⟨Z,g2,O,g4⟩:=dM hE
 have I:=hd.sl.froz
 obtain⟨s0,vs,oD,_⟩:=aaM t c zT aT fT a7 a8 a9 aw aA az hT hC hA hk
 obtain⟨ht,hc⟩:=um t c zT aT fT a7 a8 a9 aw aA az hT hC hA hk
 have iR:=(fB t ht).1
 have U:=CU c hc
 have II:=pT c zT aT fT a7 a8 a9 aw aA az vs
 have T8:froz1 (stV c zT aT fT a7 a8 a9 aw aA az vs)=true:=rfl
 have hds:=abc t c zT aT fT a7 a8 a9 aw aA az vs hT d dT hd zV
 rw[hE]at hds
 cases d with
 |nil=>simp at Z
 |cons x r=>
  obtain⟨v',BJ,hv⟩:=hd.tail
  have J:lK dT=some (r.length+1):=hd.choose_spec.1.len
  obtain⟨rr,F⟩:=iH hd 0 yv
  obtain⟨j,hj,e,ef,_⟩:=eP iR O (k:=0) yv
  have V:=Ua t c zT aT fT a7 a8 a9 aw aA az vs hT iR x j hj (by simpa using e)
  have tn:kU t.fl (x::r) 1=jW t.fl[j] x (ta x):=by rw[←ef];rfl
  rw[←tn]at V
  have F: ∀kk,iaV dT (.i kk (0:Int)) 2=some (.vp (qi x.1:: .b x.2::rr)):=F
  have sV:=hv.choose_spec.1.lenI
  have hL:=fun e6=>aCi t c zT aT fT a7 a8 a9 aw aA az hT vs iR ⟨U.1,U.2.2.1⟩ x r g2 O g4 v' hv e6
  have MR:=(dg (kU t.fl (x::r) 1).ty).froz1
  have hy:=(dg (kU t.fl (x::r) (r.length+1)).ty).froz1
  rw[List.length_cons]
  generalize kU t.fl (x::r) 1=s1 at*
  generalize kU t.fl (x::r) (r.length+1)=s2 at*
  unfold nS sZ at*
  unfold aO at*
  generalize yK s1.ty=y1 at*
  generalize yK s2.ty=y2 at*
  rw[au axh (by simp[uF])]
  simp(maxDischargeDepth:=6) only[qA,seval,Yw,dN,uF,oD,amV,II,T8,hds,axw,F,V,aF3,J,BJ,sV,hz,I,MR]
  generalize hD:DC pE 49 (.loop xz) _=D
  obtain⟨W,l2,s2',rfl,⟨rfl,X,IK⟩,Y⟩:=qK IW hD (hL _ _ _ _ yk yk yk yk yk rfl yk)
  have p6:aa W 6= .ptr .L 6 1 0:=by rw[Y 6 zz];simp only[qA,seval]
  have K:aa W 11= .ptr .L 11 1 0:=by rw[Y 11 zz];simp only[qA,seval]
  simp only[qA,seval]at X
  simp(maxDischargeDepth:=6) only[qA,seval,p6,K,X,IK,hy]
  exact⟨_,rfl⟩
end
section
variable(t:Tt)(c:Ct)(zT aT fT a7 a8 a9 aw aA az:T)(vs:List T)(hT:jV t zT aT fT)(hV:Ea t c vs)(ht:np t=0)(hc:eH c=0)
include hT hV ht hc
end
section
variable(t:Tt)(c:Ct)(zT aT fT a7 a8 a9 aw aA az:T)(hT:jV t zT aT fT)(hC:kR c a7 a8 a9 aw aA az)(hA:CY c)(hk:ee t c=0)(d:List (Int×Bool))(dT:T)(hd:kK d dT)(hE:cL c t.fl d=0)
include hT hC hA hk hd hE
end
end Go.Proofs.YtnkgnjecmfkcfaaGreat
