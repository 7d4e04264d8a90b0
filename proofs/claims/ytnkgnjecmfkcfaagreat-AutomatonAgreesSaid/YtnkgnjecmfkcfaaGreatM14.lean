/- Walks of functions of the program and of the reference, and their plain laws, part 14. Conditions: the theorems' own. -/
import Derived.Test.YtnkgnjecmfkcfaaGreatGS
import Derived.Test.YtnkgnjecmfkcfaaGreatM5
import Derived.Test.YtnkgnjecmfkcfaaGreatM13
import Derived.KernelRfl
set_option maxRecDepth 100000
set_option linter.unusedSimpArgs false
set_option linter.unusedVariables false
set_option maxHeartbeats 16000000
namespace Go.Proofs.YtnkgnjecmfkcfaaGreat
open Go Go.Ev
theorem Mh{z:Zo}{A B f t:Int}(D:0≤f∧f<1440)(ht:0≤t∧t<1440)(h:cN f t=0):z.bandM A B f t=0:=by
 have r: ∀n,j0 (fun x=>dw (z.clk x) f t) A n=0:=by
  intro n
  induction n with
  |zero=>rfl
  |succ n ih=>
   rw[j0,ih]
   have e:dw (z.clk (A+n)) f t=false:=by
    have:=Jz (m:=A+n+z.off (A+n)) D ht
    rw[show(A+n+z.off (A+n))%1440=z.clk (A+n)from rfl,h]at this
    grind
   simp[e]
 exact r _
theorem axg{v:T}{R:List (Int×Int)}(h:IsSl v R.length (KK R))(j:Nat)(D:j<R.length): ∃r,∀kk,iaV v (.i kk (j:Int)) 2=some (.vp (.i .i64 R[j].1:: .i .i64 R[j].2::r)):=by
 refine⟨KK (R.drop (j+1)),fun kk=> ?_⟩
 rw[h.ia (zw R) D]
 simp_all[KK,xh]
theorem F0: ∀{R:List (Int×Int)},vK R→0≤gn R
 | [],_=>by simp[gn]
 |x::R,h=>by
  have h1:=h x xv
  have h2:=F0 (R:=R) fun y r=>h y (by simp[r])
  grind [gn]
theorem RH{R:List (Int×Int)}(h:vK R)(k:Nat):0≤gn (R.take k)∧gn (R.take k)≤gn R:=by
 have e:gn R=gn (R.take k)+gn (R.drop k):=by rw[←lU,List.take_append_drop]
 have h1:=F0 (R:=R.take k) fun y r=>h y (List.mem_of_mem_take r)
 have h2:=F0 (R:=R.drop k) fun y r=>h y (List.mem_of_mem_drop r)
 omega
theorem yL.fz{lh:aD ah}{sh:List ah}{v:T}{R:List (Int×Int)}{m:Nat}(h:yL lh v R): ∃w u,Ev.fzW m lh sh false v=some (w,u)∧IsSl w R.length (KK R)∧Bf sh u=sh:=by
 rcases h with⟨rfl,rfl⟩|⟨R',x,g,rfl,rfl,h⟩
 ·exact⟨.nilsl,[],xi rfl,.inl ⟨rfl,rfl,rfl⟩,rfl⟩
 ·have r:=OA R' (.i .i64 x.1) (.i .i64 x.2)
  refine⟨_,_,by rw[Fx,h,oS,if_pos ⟨rfl,by rw[r];omega⟩],.inr ⟨false, ?_⟩,rfl⟩
  rw[List.drop_zero,List.take_of_length_le (by rw[r];omega),Oz,List.length_append];rfl
theorem axh{f t A B:Int}{fr:Fr}{lh:aD ah}{sh:List ah}{D:Option (Out×St)}(hs:SpB A B f t)(O:cN f t≠0)(L:List (Int×Int×Int))(U: ∀x∈L,YK x)(r:L.length≤17)(V:DC pE 113 (.loop jC) ⟨fr,lh,sh⟩=D)(h2:aa fr 2= .i .i64 f)(F:aa fr 10= .i .i64 (cN f t))(I:aa fr 11= .nilsl)(W:aa fr 32=bA L.length (yo L))(Bs:aa fr 33= .i .i64 (L.length:Int))(KL:aa fr 34= .i .i64 0):
  ∃J K R,D=some (.ext 0,⟨J,K,sh⟩)∧yL K (aa J 11) R∧vK R∧gn R=tC (fun x=>dw ((x.1+x.2)%1440) f t) L∧R.length≤1000000∧ ∀s,(ch (.loop jC)).contains s=false→aa J s=aa fr s:=by
 obtain⟨e,R,r1,r2,r3,X,Y⟩:=aDL f t A B hs O L U r fr lh sh h2 F I W Bs KL
 unfold pT at e;rw[Y]at e
 exact⟨_,_,R,V.symm.trans e,r1,r2,r3,X,fun s hs=>fu e s hs⟩
section
variable(z:Zo)(a:T)(hz:ZoT z a)(hv:gv z=0)(A B f t:Int)(hs:SpB A B f t)
include hz hv hs
theorem YL: ∃v R s,ae pE 223 [.agg (l9 z a),.agg [.i .i64 A,.i .i64 B],.i .i64 f,.i .i64 t] []=some (.tup [v,.i .i64 (cN f t)],s)∧IsSl v R.length (KK R)∧vK R∧gn R=z.bandM A B f t∧R.length≤1000000:=by
 have I:=YI z a hz (iq hv).2.1 A B _ rfl
 have Lw:=hs
 obtain⟨U,s2,s3,W,X,Y,Z⟩:=Lw
 have abM:=Me (f:=f) (t:=t) hv U s3
 have jb:=OD U s3 z.sh 0 z.o (OC (iq hv).1) (fun s q=>(zt (iq hv).2.2 s q).2)
 have hlen:(jc A B 0 z.o z.sh).length≤17:=by
  have key: ∀(l:List (Int×Int)) (fr o:Int),(jc A B fr o l).length≤l.length+1:=by
   have onZ: ∀p q o:Int,(vJ p q o).length≤1:=fun p q o=>by unfold vJ;split <;> simp
   intro l
   induction l with
   |nil=>grind [jc]
   |cons s r ih=>grind [jc,List.length_append,List.length_cons]
  grind [iq]
 have eF:lenI (bA (jc A B 0 z.o z.sh).length (yo (jc A B 0 z.o z.sh)))=some (.i .i64 ((jc A B 0 z.o z.sh).length:Int)):=(fe (cs:=yo (jc A B 0 z.o z.sh)) fun h=>by rw[List.length_eq_zero_iff.1 h];rfl).lenI
 have V:wr .i64 (t-f)=t-f:=bj yv
 have J:wr .i64 (t-f+1440)=t-f+1440:=bj yv
 have F:(t-f+1440).tmod 1440=cN f t:=by unfold cN;exact Int.tmod_eq_emod_of_nonneg yv
 generalize jc A B 0 z.o z.sh=L at*
 obtain⟨cc,ha,hc⟩:=hz
 unfold l9 at I ⊢
 rw[au ag4 (by simp[P6])]
 by_cases K:cN f t=0
 ·refine⟨.nilsl,[],[], ?_,.inl ⟨rfl,rfl,rfl⟩,(fun x hx=>by cases hx), ?_,by simp⟩
  ·rw[K]at F
   simp only[qA,seval,P6,V,J,F,K]
  ·rw[Mh ⟨W,X⟩ ⟨Y,Z⟩ K];rfl
 ·simp only[qA,seval,P6,V,J,F,K,I,auw,eF,ha.froz1]
  generalize hD:DC pE 113 (.loop jC) _=D
  obtain⟨bK,aU,R,rfl,r1,r2,r3,r4,pr⟩:=axh hs K L jb hlen hD wW wW wW wW wW wW
  have O:aa bK 10= .i .i64 (cN f t):=by rw[pr 10 xW];simp only[qA,seval]
  obtain⟨w,u,q1,q2,q3⟩:=r1.fz (sh:= []) (m:=6)
  simp only[qA,seval,O,q1]
  grind
omit hz hv hs in
theorem aDM(v:T)(R:List (Int×Int))(K:IsSl v R.length (KK R))(J:vK R)(hs:gn R≤52596000)(hlen:R.length≤1000000)(fr:Fr)(lh:aD ah)(sh:List ah)(r:aa fr 13= .i .i64 0)(D:aa fr 32=v)(Bs:aa fr 33= .i .i64 (R.length:Int))(KL:aa fr 34= .i .i64 0):
  pT 47 qW fr lh sh (.ext 0)∧
  (aa (mY pE 47 qW fr lh sh) 13= .i .i64 (gn R)∧iH pE 47 qW fr lh sh=sh):=by
 refine eu (fun k st=> ∃(fr:Fr) (lh:aD ah),st=⟨fr,lh,sh⟩∧aa fr 13= .i .i64 (gn (R.take k))∧aa fr 32=v∧aa fr 33= .i .i64 (R.length:Int)∧aa fr 34= .i .i64 (k:Int))
  (fun O Z U=>aa O 13= .i .i64 (gn R)∧U=sh) _ R.length ?_ ?_ fr lh sh ⟨fr,lh,rfl,r,D,Bs,KL⟩
 ·rintro k _ hk ⟨fr,lh,rfl,r,D,Bs,KL⟩
  have F:(k:Int)<R.length:=yv
  have V:=JD (k:=k) yv
  obtain⟨rr,I⟩:=axg K k hk
  have W:=RH J (k+1)
  have hx:=J _ (List.getElem_mem hk)
  rw[List.take_succ_eq_append_getElem hk,lU,lV]at W
  rw[List.take_succ_eq_append_getElem hk,lU,lV]
  generalize R[k]=x at*
  generalize gn (R.take k)=q at*
  have X:wr .i64 (x.2-x.1)=x.2-x.1:=bj yv
  have Y:wr .i64 (q+(x.2-x.1))=q+(x.2-x.1):=bj yv
  simp only[qA,seval,qW,r,D,Bs,KL,F,I,V,X,Y]
  exact cU ⟨_,_,rfl,by simp only[qA,seval],by simp only[qA,seval,D],by simp only[qA,seval,Bs],by simp only[qA,seval]⟩
 ·rintro _ ⟨fr,lh,rfl,r,D,Bs,KL⟩
  rw[List.take_length]at r
  simp only[qA,seval,qW,Bs,KL,Int.lt_irrefl]
  exact fv ⟨rfl,by simp only[qA,seval,r],rfl⟩
theorem alZ:ae pE 140 [.agg (l9 z a),.agg [.i .i64 A,.i .i64 B],.i .i64 f,.i .i64 t] []=some (.tup [.i .i64 (z.bandM A B f t),.i .i64 0],[]):=by
 have h1:=aei z a hz hv A B f t hs
 obtain⟨v,R,s,h2,h3,h4,h5,h6⟩:=YL z a hz hv A B f t hs
 have D:z.bandM A B f t≤52596000:=by
  obtain⟨O,s2,s3,_⟩:=hs
  have:=zu (fun x=>dw (z.clk x) f t) A (B-A).toNat
  unfold Zo.bandM qK
  omega
 have r:=fun fr lh sh F I Bs KL=>aDM v R h3 h4 (by rw[h5];exact D) h6 fr lh sh F I Bs KL
 rw[h5]at r
 have J:=h3.lenI
 obtain⟨U,K,hc⟩:=hz
 unfold l9 at h1 h2 ⊢
 rw[au UL (by simp[Ty])]
 simp only[qA,seval,Ty,h1,h2,J,r,K.froz1,auj,auk]
end
theorem YM{α:Type}{f:α→List Nat}: ∀{l:List α},(l.map f).Nodup→ ∀a∈l,∀b∈l,f a=f b→a=b
 | [],_,a,r,_,_,_=>by cases r
 |x::l,h,a,r,b,D,e=>by
  rw[List.map_cons,List.nodup_cons]at h
  rcases List.mem_cons.1 r with p|p <;> rcases List.mem_cons.1 D with q|q
  ·rw[p,q]
  ·exact absurd (List.mem_map.2 ⟨b,q,by rw[←e,p]⟩) h.1
  ·exact absurd (List.mem_map.2 ⟨a,p,by rw[e,q]⟩) h.1
  ·exact YM h.2 a p b q e
theorem OE{α:Type}{f:α→List Nat}: ∀{l:List α},(l.map f).Nodup→ ∀a∈l,l.find? (fun x=>f x==f a)=some a:=by
 intro l h a D
 cases r:l.find? (fun x=>f x==f a)with
 |none=>
  have:=List.find?_eq_none.1 r a D
  simp at this
 |some b=>
  have h1:=List.mem_of_find?_eq_some r
  have h2:=List.find?_some r
  rw[YM h b h1 a D (by simpa using h2)]
def zo0:Zo:=⟨[],0,[]⟩
def yM(t:Tt)(s:List Nat):Zo:=match t.ap.find? fun u=>u.cd==s with
 |some u=>(t.zo.find? fun z=>z.nm==u.zn).getD zo0
 |none=>zo0
theorem Mi{t:Tt}(ht:nR t=0){u:Ap}{z:Zo}{s:List Nat}(r:u∈t.ap)(hz:z∈t.zo)(h1:u.cd=s)(h2:z.nm=u.zn):yM t s=z:=by
 obtain⟨D,_,F,_⟩:=L7 t ht
 subst h1
 unfold yM
 rw[OE F u r]
 simp only
 rw[←h2,OE D z hz];rfl
theorem al0{t:Tt}(ht:nR t=0){s:List Nat}(hs:s∈t.ap.map Ap.cd): ∃u∈t.ap,u.cd=s∧ ∃z∈t.zo,z.nm=u.zn∧yM t s=z:=by
 obtain⟨_,h2,_,_⟩:=vH t ht
 obtain⟨u,r,h1⟩:=List.mem_map.1 hs
 obtain⟨z,hz,h3⟩:=List.mem_map.1 (h2 u r)
 exact⟨u,r,h1,z,hz,h3,Mi ht r hz h1 h3⟩
theorem xu{t:Tt}(ht:nR t=0){s:List Nat}(hs:s∈t.ap.map Ap.cd):gv (yM t s)=0:=by
 obtain⟨u,_,_,z,hz,_,h⟩:=al0 ht hs
 rw[h];exact(vH t ht).1 z hz
theorem aDN{t:Tt}(ht:nR t=0){q:List (List Nat×List T)}(r:Rt t.zo t.ap q)(D:q.map Prod.fst=t.ap.map Ap.cd){s:List Nat}(hs:s∈t.ap.map Ap.cd): ∃a,aM q s=some (l9 (yM t s) a)∧ZoT (yM t s) a:=by
 obtain⟨v,hv⟩:=xm (by rw[D];exact hs)
 obtain⟨u,F,h1,z,hz,h2,h3⟩:=r _ (vz hv)
 rw[Mi ht F hz h1 h2]
 obtain⟨a,I,e,h4,h5⟩:=h3
 simp only at e
 subst e
 exact⟨a,hv,I,h4,h5⟩
theorem ij{t:Tt}(ht:nR t=0){f:Fl}(D:f∈t.fl):f.fr∈t.ap.map Ap.cd∧f.to∈t.ap.map Ap.cd:=by
 have h:=(vH t ht).2.2.1 f D
 unfold CV at h
 split at h
 ·cases h
 split at h
 ·cases h
 split at h
 ·cases h
 rename_i q
 split at h
 ·cases h
 rename_i r
 exact⟨by simpa using q,by simpa using r⟩
theorem OG{c:Ct}(h:fi c=0):0≤c.nf∧c.nf≤1439∧0≤c.nt∧c.nt≤1439:=by
 unfold fi at h
 split at h
 ·rename_i q;exact absurd h q
 rename_i g
 have g:fY c=0:=yv
 unfold fY at g
 split at g
 ·cases g
 rename_i r
 have r:kz c=true:=by simpa using r
 unfold kz at r
 simp only[Bool.and_eq_true,FY]at r
 omega
def ph(c:Ct)(f:Fl):Int:=f.dp-c.rp
def pj(c:Ct)(g:Fl):Int:=g.ar+c.rl
def CY(t:Tt)(c:Ct)(f g:Fl):Int:=if ph c f<pj c g then(yM t f.fr).bandM (ph c f) (pj c g) c.nf c.nt else 0
def F1(t:Tt)(c:Ct)(f g:Fl):Int:=max ((yM t f.fr).off (ph c f)-(yM t g.to).off (pj c g)) ((yM t g.to).off (pj c g)-(yM t f.fr).off (ph c f))
def JE(t:Tt)(c:Ct)(f:Fl):Int:=(yM t f.fr).clk (ph c f)
def JF(t:Tt)(c:Ct)(g:Fl):Int:=(yM t g.to).clk (pj c g)
theorem JG{c:Ct}(hc:fi c=0){f g:Fl}(D:nW f)(F:nW g):(1440≤ph c f∧ph c f≤52593120)∧(2880≤pj c g∧pj c g≤52594560)∧wr .i64 (f.dp-c.rp)=ph c f∧wr .i64 (g.ar+c.rl)=pj c g∧wr .i64 (pj c g-ph c f)=pj c g-ph c f:=by
 obtain⟨_,I,J,K,O⟩:=D
 obtain⟨_,U,V,W,X⟩:=F
 have r:=BG c hc
 unfold ph pj
 refine⟨by omega,by omega,bj yv,bj yv,bj yv⟩
theorem zx{x:Int}(h:0≤x∧x<52596000):nQ x=true:=by unfold nQ;simp[h]
section
variable(t:Tt)(c:Ct)(zT aT fT a7 a8 a9 aw aA az:T)(vs:List T)(hT:kN t zT aT fT)(hC:mG c a7 a8 a9 aw aA az)(hV:yH t c vs)(ht:nR t=0)(hc:fi c=0)
theorem OH(hV:yH t c vs)(ht:nR t=0){s:List Nat}(hs:s∈t.ap.map Ap.cd): ∃a,ae pE 139 [stV c zT aT fT a7 a8 a9 aw aA az vs,.s s] []=some (.agg (l9 (yM t s) a),[])∧ZoT (yM t s) a:=by
 obtain⟨q,r1,r2,r3,c1,c2,c3,cr,nb,rfl,F,I,_⟩:=hV
 obtain⟨a,hv,D⟩:=aDN ht F I hs
 refine⟨a, ?_,D⟩
 have r:=N9 (kT:=sK) (vT:=T.agg) CS (fun _=>rfl) q s (.agg [.s [],.i .i64 0,.nilsl])
 rw[hv]at r
 change iu _ _ _ (.s s) _ _=_ at r
 obtain⟨J,h1,h2⟩:=D
 unfold l9 at*
 unfold stV aY
 simp only[List.cons_append,List.nil_append]
 rw[au agb (by simp[Tx])]
 simp only[qA,seval,Tx,r,h1.froz1]
theorem qN(hT:kN t zT aT fT)(i:Nat)(hi:i<t.fl.length): ∃r,ae pE 77 [stV c zT aT fT a7 a8 a9 aw aA az vs,.i .i64 (i:Int)] []=some (.vp (.s t.fl[i].nu:: .s t.fl[i].fr:: .s t.fl[i].to:: .i .i64 t.fl[i].dp:: .i .i64 t.fl[i].ar:: .s t.fl[i].ty:: .i .i64 t.fl[i].n0:: .i .i64 t.fl[i].n1:: .i .i64 t.fl[i].n2::r),[]):=by
 obtain⟨D,F,I⟩:=hT.f
 exact L9 zT aT fT (aY c a7 a8 a9 aw aA az++vs) D t.fl F I i hi
theorem YN(hT:kN t zT aT fT)(ht:nR t=0)(hc:fi c=0)(i j:Nat)(hi:i<t.fl.length)(r:j<t.fl.length):ae pE 138 [stV c zT aT fT a7 a8 a9 aw aA az vs,.i .i64 (i:Int),.i .i64 (j:Int)] []=some (.agg [.i .i64 (ph c t.fl[i]),.i .i64 (pj c t.fl[j])],[]):=by
 obtain⟨r1,h1⟩:=qN t c zT aT fT a7 a8 a9 aw aA az vs hT i hi
 obtain⟨r2,h2⟩:=qN t c zT aT fT a7 a8 a9 aw aA az vs hT j r
 obtain⟨_,_,D,F,_⟩:=JG hc ((eP t ht).1 _ (List.getElem_mem hi)) ((eP t ht).1 _ (List.getElem_mem r))
 generalize t.fl[i]=f at*
 generalize t.fl[j]=g at*
 generalize ph c f=S at*
 generalize pj c g=E at*
 unfold stV aY at*
 simp only[List.cons_append,List.nil_append]at*
 rw[au af9 (by simp[Tw])]
 simp only[qA,seval,bp,aH,Tw,h1,h2,D,F,EN,ajF]
theorem JH(hT:kN t zT aT fT)(hV:yH t c vs)(ht:nR t=0)(hc:fi c=0)(i j:Nat)(hi:i<t.fl.length)(X:j<t.fl.length)(x0 x1 x2 x3 x4 x5 x6 x7 x8 x9 Y:T):
  ae pE 80 [stV c zT aT fT a7 a8 a9 aw aA az vs,.isl .S 0 1 0 11 1,.i .i64 (i:Int),.i .i64 (j:Int)] [⟨1,.cells [x0,x1,x2,x3,x4,x5,x6,x7,x8,x9,Y] 0 false⟩]=some (.tup [],[⟨1,.cells [x0,x1,x2,x3,.i .i64 (pj c t.fl[j]-ph c t.fl[i]),.i .i64 (CY t c t.fl[i] t.fl[j]),x6,x7,.i .i64 (F1 t c t.fl[i] t.fl[j]),.i .i64 (JE t c t.fl[i]),.i .i64 (JF t c t.fl[j])] 0 false⟩]):=by
 have F:=YN t c zT aT fT a7 a8 a9 aw aA az vs hT ht hc i j hi X
 obtain⟨r1,h1⟩:=qN t c zT aT fT a7 a8 a9 aw aA az vs hT i hi
 obtain⟨r2,h2⟩:=qN t c zT aT fT a7 a8 a9 aw aA az vs hT j X
 have Z:=List.getElem_mem hi
 have hg:=List.getElem_mem X
 obtain⟨b1,b2,_,_,w3⟩:=JG hc ((eP t ht).1 _ Z) ((eP t ht).1 _ hg)
 obtain⟨za,I,KA⟩:=OH t c zT aT fT a7 a8 a9 aw aA az vs hV ht (ij ht Z).1
 obtain⟨zb,J,r⟩:=OH t c zT aT fT a7 a8 a9 aw aA az vs hV ht (ij ht hg).2
 have W:=xu ht (ij ht Z).1
 have v2:=xu ht (ij ht hg).2
 have nf:=OG hc
 have i1:=zx (x:=ph c t.fl[i]) yv
 have i2:=zx (x:=pj c t.fl[j]) yv
 have o1:=tz _ za KA W _ i1
 have o2:=tz _ zb r v2 _ i2
 have l1:=Jx _ za KA W _ i1
 have l2:=Jx _ zb r v2 _ i2
 have d1:=Zo.off_bd W (ph c t.fl[i])
 have d2:=Zo.off_bd v2 (pj c t.fl[j])
 have bm:ph c t.fl[i]<pj c t.fl[j]→_:=fun h=>alZ _ za KA W (ph c t.fl[i]) (pj c t.fl[j]) c.nf c.nt ⟨by omega,by omega,by omega,by omega,by omega,by omega,by omega⟩
 have K:=KA.choose_spec.1.froz1
 have O:=r.choose_spec.1.froz1
 have ca:=KA.choose_spec.1.cells
 have cb:=r.choose_spec.1.cells
 unfold CY F1 JE JF
 generalize t.fl[i]=f at*
 generalize t.fl[j]=g at*
 generalize ph c f=S at*
 generalize pj c g=E at*
 generalize yM t f.fr=U at*
 generalize yM t g.to=V at*
 have w4:wr .i64 (U.off S-V.off E)=U.off S-V.off E:=bj yv
 have w5:wr .i64 (V.off E-U.off S)=V.off E-U.off S:=bj yv
 generalize U.off S=p1 at*
 generalize V.off E=p2 at*
 have Cm:=lS c zT aT fT a7 a8 a9 aw aA az vs
 have hkv:kept (stV c zT aT fT a7 a8 a9 aw aA az vs)=true:=nr rfl
 unfold l9 at*
 rw[au ajG (by simp[c80])]
 by_cases D:S<E
 ·have bm:=bm D
  have yy:0<E-S:=yv
  rw[if_pos D]
  unfold stV aY at*
  simp only[List.cons_append,List.nil_append]at*
  simp only[qA,seval,bp,aH,eJ,c80,F,h1,h2,I,J,w3,w4,w5,yy,bm,o1,o2,l1,l2,mM,pM,K,O,qI,gb,ed,EN,aga,agc,agd,age,UM,agi]
  rfl
 ·have yy: ¬0<E-S:=yv
  rw[if_neg D]
  unfold stV aY at*
  simp only[List.cons_append,List.nil_append]at*
  simp only[qA,seval,bp,aH,eJ,c80,F,h1,h2,I,J,w3,w4,w5,yy,o1,o2,l1,l2,mM,pM,K,O,EN,aga,agc,agd,age,UM,agi]
  rfl
end
end Go.Proofs.YtnkgnjecmfkcfaaGreat
namespace Go.Ev
open Go
theorem vM{E:Env}{call:jP}{n:Nat}{fr:Fr}{lh:aD ah}{sh:List ah}{os:List aF}{d bytes:Nat}{z:List T}{x:aP}(hd:d<n):ai E call n (⟨some d,.mksl z bytes x true,none⟩::os) ⟨fr,lh,sh⟩=
  (Lu (rd fr x) bytes).bind fun m=>ai E call n os ⟨cH fr d (.isl .S sh.length 1 0 m z.length),lh,bI sh sh.length ⟨1,.cells (repl z m) 0 (Sz z)⟩⟩:=by
 rw[kI (by rfl) (show CJ n (some d)from hd)]
 unfold one Lu
 simp only[bz]
 cases asNat (rd fr x)with
 |none=>rfl
 |some m=>
  simp only[Bool.and_eq_true,decide_eq_true_eq]
  split <;> rfl
end Go.Ev
namespace Go.Proofs.YtnkgnjecmfkcfaaGreat
open Go Go.Ev
structure Cn where
 lg:Int
 hd:Int
 bk:Int
 lo:Int
 so:Int
 ks:List (List Nat)
def cn0:Cn:=⟨0,0,0,0,1440,[]⟩
def adK(s:List Nat)(l:List (List Nat)):List (List Nat):=if s∈l then l else l++ [s]
def F2(f:Fl)(h:Bool)(s:Cn):Cn:=if h=true then{s with hd:=s.hd+1}else{s with lg:=s.lg+1,bk:=s.bk+(f.ar-f.dp),ks:=adK f.ty s.ks}
def RI(g f:Fl)(s:Cn):Cn:={s with lo:=max s.lo (f.dp-g.ar),so:=min s.so (f.dp-g.ar)}
theorem aDO(g f:Fl)(h:Bool)(s:Cn):F2 f h (RI g f s)=RI g f (F2 f h s):=by cases h <;> rfl
def JI(d:List (Int×Bool))(k:Nat):Int×Bool:=d.getD k (0,false)
def db(fl:List Fl)(d:List (Int×Bool))(k:Nat):Fl:=YA fl (JI d k).1
def kE(fl:List Fl)(d:List (Int×Bool)):Nat→Cn
 |0=>cn0
 |k+1=>if k=0 then F2 (db fl d k) (JI d k).2 (kE fl d k)else RI (db fl d (k-1)) (db fl d k) (F2 (db fl d k) (JI d k).2 (kE fl d k))
def F3(k:Nat)(s:Cn):Prop:=(0≤s.lg∧s.lg≤k)∧(0≤s.hd∧s.hd≤k)∧(0≤s.bk∧s.bk≤1440*k)∧(0≤s.lo∧s.lo≤52593120)∧(-52593120≤s.so∧s.so≤1440)∧s.ks.length≤k
theorem al2:F3 0 cn0:=by unfold F3 cn0;simp
theorem YP{f:Fl}(r:nW f){h:Bool}{k:Nat}{s:Cn}(hs:F3 k s):F3 (k+1) (F2 f h s):=by
 obtain⟨_,D,F,I,J⟩:=r
 grind [adK,F3,F2]
theorem Mj{f g:Fl}(r:nW f)(D:nW g): -52593120≤f.dp-g.ar∧f.dp-g.ar≤52593120:=by
 obtain⟨_,F,I,J,K⟩:=r
 obtain⟨_,O,U,V,W⟩:=D
 omega
theorem al4{f g:Fl}(r:nW f)(D:nW g){k:Nat}{s:Cn}(hs:F3 k s):F3 k (RI g f s):=by
 have:=Mj r D
 grind [F3,RI]
theorem pk{d:List (Int×Bool)}{k:Nat}(hk:k<d.length):JI d k=d[k]:=by grind [JI]
theorem dR{fl:List Fl}(r: ∀f∈fl,nW f){d:List (Int×Bool)}(hd: ∀k∈d,lj fl.length k.1=true){k:Nat}(hk:k<d.length): ∃i:Nat,∃hi:i<fl.length,d[k].1=i∧db fl d k=fl[i]∧nW (db fl d k):=by
 obtain⟨i,hi,e⟩:=na (hd _ (List.getElem_mem hk))
 grind [db,pk,Mb]
theorem F4{fl:List Fl}(r: ∀f∈fl,nW f){d:List (Int×Bool)}(hd: ∀k∈d,lj fl.length k.1=true): ∀k,k≤d.length→F3 k (kE fl d k)
 |0,_=>al2
 |k+1,h=>by
  have ih:=F4 r hd k yv
  obtain⟨_,_,_,_,h1⟩:=dR r hd (k:=k) yv
  rw[kE]
  split
  ·exact YP h1 ih
  ·obtain⟨_,_,_,_,h2⟩:=dR r hd (k:=k-1) yv
   exact al4 h1 h2 (YP h1 ih)
theorem axl(s:List Nat)(l:List (List Nat))(a:T)(O:IsSl a l.length (l.map T.s))(hlen:l.length≤1000)(r:Int)(hr:r=ixA s l 0)(o:Out)(U:o=if r<0 then .ext 0 else .ret)(fr:Fr)(lh:aD ah)(sh:List ah)(h0:aa fr 0=a)(h1:aa fr 1= .s s)(F:aa fr 7= .i .i64 (l.length:Int))(I:aa fr 8= .i .i64 0):
  pT 19 qX fr lh sh o∧
  ((¬r<0→aa (mY pE 19 qX fr lh sh) 4= .i .i64 r)∧iH pE 19 qX fr lh sh=sh):=by
 refine eu (fun k st=> ∃(fr:Fr) (lh:aD ah),st=⟨fr,lh,sh⟩∧r=ixA s (l.drop k) k∧aa fr 0=a∧aa fr 1= .s s∧aa fr 7= .i .i64 (l.length:Int)∧aa fr 8= .i .i64 (k:Int))
  (fun V Y W=>(¬r<0→aa V 4= .i .i64 r)∧W=sh) _ l.length ?_ ?_ fr lh sh ⟨fr,lh,rfl,hr,h0,h1,F,I⟩
 ·rintro k _ hk ⟨fr,lh,rfl,hr,h0,h1,F,I⟩
  have J:(k:Int)<l.length:=yv
  have X:=aG (k:=k) yv
  have D: ∃K,∀kk,iaV a (.i kk (k:Int)) 1=some (.vp (.s l[k]::K)):=by
   refine⟨(l.map T.s).drop (k+1),fun kk=> ?_⟩
   rw[O.ia (sz:=1) xv hk,Nat.mul_one,List.drop_eq_getElem_cons (by simpa using hk),List.getElem_map]
  obtain⟨K,D⟩:=D
  rw[List.drop_eq_getElem_cons hk,ixA]at hr
  generalize l[k]=y at*
  simp only[qB,seval,qX,h0,h1,F,I,J,D,X]
  refine qx (fun h=> ?_) (fun h=> ?_)
  ·rw[if_pos h.symm]at hr
   exact qy ⟨by rw[U,if_neg yv],fun _=>(by simp only[qA,seval,hr]),rfl⟩
  ·rw[if_neg (fun e=>h e.symm)]at hr
   exact cU ⟨_,_,rfl,hr,by simp only[qA,seval,h0],by simp only[qA,seval,h1],by simp only[qA,seval,F],by simp only[qA,seval]⟩
 ·rintro _ ⟨fr,lh,rfl,hr,h0,h1,F,I⟩
  rw[List.drop_length,ixA]at hr
  simp only[qA,seval,qX,F,I,Int.lt_irrefl]
  grind [fv]
theorem F5(s:List Nat)(l:List (List Nat))(a:T)(r:IsSl a l.length (l.map T.s))(hlen:l.length≤1000):ae pE 81 [a,.s s] []=some (.b (decide (s∈l)),[]):=by
 have D:=fun fr lh sh h0 h1 I J=>axl s l a r hlen _ rfl _ rfl fr lh sh h0 h1 I J
 have Yc:=Bx s l 0
 have K:=zk s l 0
 have F:ae pE 143 [a,.s s] []=some (.i .i64 (ixA s l 0),[]):=by
  rw[au agj (by simp[PK])]
  generalize ixA s l 0=v at*
  by_cases h:v<0
  ·have e:=Yc h
   subst e
   simp only[qA,seval,PK,D,r.lenI]
  ·simp only[h,if_false,not_false_eq_true,forall_const]at D
   simp only[qA,seval,PK,D,r.lenI]
 have hd:decide (s∈l)=decide (0≤ixA s l 0):=by
  grind
 rw[hd]
 rw[au as5 (by simp[c81])]
 generalize ixA s l 0=v at*
 simp only[qA,seval,c81,F,r.froz,atE]
def dvC(s:Cn):List T:= [.i .i64 s.lg,.i .i64 s.hd,.i .i64 0,.i .i64 s.bk,.i .i64 0,.i .i64 0,.i .i64 s.lo,.i .i64 s.so,.i .i64 0,.i .i64 0,.i .i64 0]
theorem ais{n:Nat}(h:n≤1000):(n+1)*16≤roomy:=by unfold roomy;omega
section
variable(t:Tt)(c:Ct)(zT aT fT a7 a8 a9 aw aA az:T)(vs:List T)(hT:kN t zT aT fT)(ht:nR t=0)
include hT ht
theorem aDP(d:List (Int×Bool))(dT:T)(hd:tw d dT)(hlen:d.length≤100)(bo: ∀k∈d,lj t.fl.length k.1=true)(fr:Fr)(lh:aD ah)(sh:List ah)(ft:sh= [⟨1,.cells (dvC cn0) 0 false⟩])(h0:aa fr 0=stV c zT aT fT a7 a8 a9 aw aA az vs)(h1:aa fr 1=dT)(h5:aa fr 5= .isl .S 0 1 0 11 1)(h6:aa fr 6= .nilsl)(cZ:aa fr 14=dT)(X:aa fr 15= .i .i64 (d.length:Int))(I:aa fr 16= .i .i64 0):
  Lp pE 117 wD fr lh sh (.ext 0) fun f l s=>bg l (aa f 6) 64 1 (kE t.fl d d.length).ks.length ((kE t.fl d d.length).ks.map T.s)∧s= [⟨1,.cells (dvC (kE t.fl d d.length)) 0 false⟩]:=by
 refine cV tL (fun k f l s=>aa f 16= .i .i64 (k:Int)∧bg l (aa f 6) 64 1 (kE t.fl d k).ks.length ((kE t.fl d k).ks.map T.s)∧s= [⟨1,.cells (dvC (kE t.fl d k)) 0 false⟩]) d.length ⟨I,by rw[h6];exact bg.nil,ft⟩ ?_ ?_
 ·rintro k J l _ hk W ⟨I,r,rfl⟩
  have K:(k:Int)<d.length:=yv
  have hw:=aG (k:=k) yv
  have Y:=(eP t ht).1
  obtain⟨rr,D⟩:=kO hd k hk
  obtain⟨i,hi,ei,ef,O⟩:=dR Y bo hk
  obtain⟨r2,Z⟩:=qN t c zT aT fT a7 a8 a9 aw aA az vs hT i hi
  rw[←ef]at Z
  obtain⟨c1,c2,c3,c4,c5,c6⟩:=F4 Y bo k yv
  have iw:kE t.fl d (k+1)=if k=0 then F2 (db t.fl d k) d[k].2 (kE t.fl d k)else RI (db t.fl d (k-1)) (db t.fl d k) (F2 (db t.fl d k) d[k].2 (kE t.fl d k)):=by rw[kE,pk hk]
  have U:=F5 (db t.fl d k).ty (kE t.fl d k).ks (bA (kE t.fl d k).ks.length ((kE t.fl d k).ks.map T.s)) r.isl yv
  have F:=fun(aU:aD ah) (aX:List ah) (keep:Bool) (e:ab aU 64=ab l 64)=>(r.congr e).fzV (sh:=aX) (keep:=keep)
  have eU:=fun(aU:aD ah) (aX:List ah) (e:ab aU 64=ab l 64)=>dO (sh:=aX) (r.congr e) [.s (db t.fl d k).ty] rfl (bytes:=16) (ais yv) true
  have mN:=r.notS
  rw[ei]at D
  obtain⟨_,f1,f2,f3,f4⟩:=id O
  generalize SV:aa J 6=v6 at r F eU mN
  generalize kE t.fl d k=s at*
  have w1:wr .i64 (s.lg+1)=s.lg+1:=bj yv
  have w2:wr .i64 (s.hd+1)=s.hd+1:=bj yv
  have w3:wr .i64 ((db t.fl d k).ar-(db t.fl d k).dp)=(db t.fl d k).ar-(db t.fl d k).dp:=bj yv
  have w4:wr .i64 (s.bk+((db t.fl d k).ar-(db t.fl d k).dp))=s.bk+((db t.fl d k).ar-(db t.fl d k).dp):=bj yv
  have Cm:=lS c zT aT fT a7 a8 a9 aw aA az vs
  have V:adK (db t.fl d k).ty s.ks=if(db t.fl d k).ty∈s.ks then s.ks else s.ks++ [(db t.fl d k).ty]:=rfl
  by_cases yF:k=0
  ·have Mk: ¬(0:Int)<(k:Int):=yv
   rw[iw,if_pos yF]
   generalize db t.fl d k=f at*
   generalize d[k].2=b at*
   cases b <;> by_cases hm:f.ty∈s.ks <;> simp only[qA,seval,gd,repl,bp,aH,eJ,wD,tL,W,h0,h1,h5,SV,cZ,X,I,K,hw,D,Z,w1,w2,w3,w4,Cm,qI,gb,ed,Mk,mN,F,eU,U,hm,eG,r,V,F2,dvC,List.length_append,List.map_append,EN,as6]
  ·have Mk:(0:Int)<(k:Int):=yv
   have zi:=iY (k:=k) yv yv
   obtain⟨r3,BL⟩:=kO hd (k-1) yv
   obtain⟨j,hj,ej,eg,gok⟩:=dR Y bo (k:=k-1) yv
   obtain⟨r4,xc⟩:=qN t c zT aT fT a7 a8 a9 aw aA az vs hT j hj
   rw[←eg]at xc
   rw[ej]at BL
   have gap:=Mj O gok
   have w5:wr .i64 ((db t.fl d k).dp-(db t.fl d (k-1)).ar)=(db t.fl d k).dp-(db t.fl d (k-1)).ar:=bj yv
   rw[iw,if_neg yF]
   generalize db t.fl d k=f at*
   generalize db t.fl d (k-1)=g at*
   generalize d[k].2=b at*
   cases b <;> by_cases hm:f.ty∈s.ks <;> simp only[qA,seval,gd,repl,bp,aH,eJ,wD,tL,W,h0,h1,h5,SV,cZ,X,I,K,hw,D,Z,w1,w2,w3,w4,Cm,qI,gb,ed,Mk,mN,F,eU,U,hm,eG,r,V,F2,dvC,List.length_append,List.map_append,EN,ajF,as6,RI,mM,pM,BL,xc,zi,w5]
 ·rintro J l _ W ⟨I,r,rfl⟩
  simp only[qA,seval,gd,wD,W,X,I,r,Int.lt_irrefl]
end
theorem Eg{k g o n s:Nat}:kept (.isl .S k g o n s)=true:=nr rfl
def aN(t:Tt)(c:Ct)(d:List (Int×Bool)):List Int:=
 [(kE t.fl d d.length).lg,(kE t.fl d d.length).hd,(kE t.fl d d.length).ks.length,(kE t.fl d d.length).bk,pj c (db t.fl d (d.length-1))-ph c (db t.fl d 0),CY t c (db t.fl d 0) (db t.fl d (d.length-1)),(kE t.fl d d.length).lo,(kE t.fl d d.length).so,F1 t c (db t.fl d 0) (db t.fl d (d.length-1)),JE t c (db t.fl d 0),JF t c (db t.fl d (d.length-1))]
section
variable(t:Tt)(c:Ct)(zT aT fT a7 a8 a9 aw aA az:T)(vs:List T)(hT:kN t zT aT fT)(hV:yH t c vs)(ht:nR t=0)(hc:fi c=0)
include hT hV ht hc
theorem YQ(d:List (Int×Bool))(dT:T)(hd:tw d dT)(h1:1≤d.length)(hlen:d.length≤100)(bo: ∀k∈d,lj t.fl.length k.1=true): ∃s,ae pE 43 [stV c zT aT fT a7 a8 a9 aw aA az vs,dT] []=some (.sl (ints (aN t c d)) 11 false,s):=by
 have U:=fun fr lh sh r h0 h1 h5 h6 D F I=>aDP t c zT aT fT a7 a8 a9 aw aA az vs hT ht d dT hd hlen bo fr lh sh r h0 h1 h5 h6 D F I
 have Y:=fun fr lh sh r h0 h1 h5 h6 D F I=>(U fr lh sh r h0 h1 h5 h6 D F I).2.1.lenI
 obtain⟨i,hi,Z,ef,_⟩:=dR (eP t ht).1 bo (k:=0) yv
 obtain⟨j,hj,ej,eg,_⟩:=dR (eP t ht).1 bo (k:=d.length-1) yv
 obtain⟨r1,V⟩:=kO hd 0 yv
 obtain⟨r2,W⟩:=kO hd (d.length-1) yv
 have hw:=iY (k:=d.length) yv yv
 have J:=hd.choose_spec.1.lenI
 have K:kept (stV c zT aT fT a7 a8 a9 aw aA az vs)=true:=nr rfl
 have X:=JH t c zT aT fT a7 a8 a9 aw aA az vs hT hV ht hc i j hi hj
 rw[←ef,←eg]at X
 rw[Z]at V
 rw[ej]at W
 have O: ∀kk,iaV dT (.i kk 0) 2=_:=V
 have YR:(11:Nat)*8≤roomy∧(11:Nat)≤roomy:=by unfold roomy;omega
 unfold aN
 generalize kE t.fl d d.length=s at*
 generalize db t.fl d 0=f at*
 generalize db t.fl d (d.length-1)=g at*
 rw[au asJ (by simp[c43])]
 unfold dvC cn0 at*
 simp only[qA,seval,repl,bp,aH,eJ,dx,c43,tL,vM,YR,U,Y,O,W,hw,J,K,Eg,X,as4,aA2]
 exact⟨_,rfl⟩
end
theorem Ml{scope:Int}{s:List Nat}{i:Nat}(h:KJ scope s=some i):(SW scope)[i]? =some s:=by
 unfold KJ dJ at h
 have:=vz h
 rw[List.take_length]at this
 exact List.mk_mem_zipIdx_iff_getElem?.1 this
def JJ(A:List Int):Prop:=A.length=11∧ ∀i s,bw[i]? =some s→BM (kJ s) (A.getD i 0)
theorem YS(l:Cs){A:List Int}(h:JJ A):Mm (OI (FR l) 1) (pX (fC l) 1 A):=by
 intro s t hs
 unfold OI at hs
 by_cases hz:dB 1 s≠0
 ·rw[if_pos hz]at hs
  injection hs with hs _
  subst hs
  unfold pX
  cases r:KJ 1 s with
  |none=>exact absurd ((lW 1 s).1 r) hz
  |some i=>exact h.2 i s (Ml r)
 ·rw[if_neg hz]at hs
  have r:=(lW 1 s).2 (by simpa using hz)
  unfold pX
  rw[r]
  exact F6 l s t hs
theorem BN{k k' v:Int}(h:k=k')(hv:BM k' v):BM k v:=h▸hv
theorem al5{v:Int}(h:bd v):BM 1 v:= .inl ⟨.inl rfl,h⟩
theorem RJ{v:Int}(h:bd v):BM 2 v:= .inl ⟨.inr rfl,h⟩
theorem axp{v:Int}(h:0≤v∧v≤1439):BM 3 v:= .inr (.inl ⟨rfl,h⟩)
theorem bdE{v:Int}(h: -1000000000≤v∧v≤1000000000):bd v:=by unfold bd;omega
theorem YT(z:Zo)(x:Int):0≤z.clk x∧z.clk x≤1439:=by unfold Zo.clk;omega
theorem YU{z:Zo}{A B f t:Int}(h1:0≤A)(h2:B≤52596000):0≤z.bandM A B f t∧z.bandM A B f t≤52596000:=by
 have:=zu (fun x=>dw (z.clk x) f t) A (B-A).toNat
 unfold Zo.bandM qK
 omega
theorem lX{t:Tt}{c:Ct}(ht:nR t=0)(hc:fi c=0){d:List (Int×Bool)}(h1:1≤d.length)(hlen:d.length≤100)(bo: ∀k∈d,lj t.fl.length k.1=true):JJ (aN t c d):=by
 have F:=(eP t ht).1
 obtain⟨c1,c2,c3,c4,c5,c6⟩:=F4 F bo d.length (Nat.le_refl _)
 obtain⟨i,hi,V,I,r⟩:=dR F bo (k:=0) yv
 obtain⟨j,J,W,K,D⟩:=dR F bo (k:=d.length-1) yv
 obtain⟨b1,b2,_,_,_⟩:=JG hc r D
 have O:gv (yM t (db t.fl d 0).fr)=0:=by rw[I];exact xu ht (ij ht (List.getElem_mem hi)).1
 have U:gv (yM t (db t.fl d (d.length-1)).to)=0:=by rw[K];exact xu ht (ij ht (List.getElem_mem J)).2
 have e1:=Zo.off_bd O (ph c (db t.fl d 0))
 have e2:=Zo.off_bd U (pj c (db t.fl d (d.length-1)))
 have nb: -1000000000≤CY t c (db t.fl d 0) (db t.fl d (d.length-1))∧CY t c (db t.fl d 0) (db t.fl d (d.length-1))≤1000000000:=by
  unfold CY
  split
  ·have:=YU (z:=yM t (db t.fl d 0).fr) (A:=ph c (db t.fl d 0)) (B:=pj c (db t.fl d (d.length-1))) (f:=c.nf) (t:=c.nt) yv yv
   omega
  ·omega
 have X: -1000000000≤F1 t c (db t.fl d 0) (db t.fl d (d.length-1))∧F1 t c (db t.fl d 0) (db t.fl d (d.length-1))≤1000000000:=by
  unfold F1;omega
 have Y:0≤JE t c (db t.fl d 0)∧JE t c (db t.fl d 0)≤1439:=YT _ _
 have Z:0≤JF t c (db t.fl d (d.length-1))∧JF t c (db t.fl d (d.length-1))≤1439:=YT _ _
 refine⟨rfl,fun i s h=> ?_⟩
 unfold aN
 generalize kE t.fl d d.length=q at*
 clear e1 e2 O U V I W K hi J r D F
 match i,h with
 |0,h=>cases h;exact BN xW (al5 (bdE (by show _≤q.lg∧q.lg≤_;omega)))
 |1,h=>cases h;exact BN xW (al5 (bdE (by show _≤q.hd∧q.hd≤_;omega)))
 |2,h=>cases h;exact BN xW (al5 (bdE (by show _≤(q.ks.length:Int)∧(q.ks.length:Int)≤_;omega)))
 |3,h=>cases h;exact BN xW (RJ (bdE (by show _≤q.bk∧q.bk≤_;omega)))
 |4,h=>cases h;exact BN xW (RJ (bdE (by show _≤pj c (db t.fl d (d.length-1))-ph c (db t.fl d 0)∧pj c (db t.fl d (d.length-1))-ph c (db t.fl d 0)≤_;omega)))
 |5,h=>cases h;exact BN xW (RJ (bdE nb))
 |6,h=>cases h;exact BN xW (RJ (bdE (by show _≤q.lo∧q.lo≤_;omega)))
 |7,h=>cases h;exact BN xW (RJ (bdE (by show _≤q.so∧q.so≤_;omega)))
 |8,h=>cases h;exact BN xW (RJ (bdE X))
 |9,h=>cases h;exact BN xW (axp Y)
 |10,h=>cases h;exact BN xW (axp Z)
 |n+11,h=>cases h
def pn(l:Cs)(A:List Int)(x:Ex):Int:=x.val0 (pX (fC l) 1 A)
theorem RK{l:Cs}{A:List Int}(hA:JJ A){x:Ex}(hx:Jl l 1 x):Hc A (comp (fC l) 1 x)∧(comp (fC l) 1 x).val A=pn l A x∧ ∃k,BM k (pn l A x):=by
 obtain⟨_,hv,k,hk⟩:=hx
 have r:=(iz hv).1
 have D:=x.nodes_eq
 obtain⟨h1,h2,h3⟩:=OJ (YS l hA) (show A.length=(SW 1).length from hA.1) x k (ic hv) yv hk
 exact⟨h1,h2,k,h3⟩
def jk(A:List Int)(l:RL):Bool:=l.all fun u=>decide (u.2.val A≠0)
def F7(n:Int):List Int→Int
 | []=>n
 |v::r=>F7 (wr .i64 (n+v)) r
def mO(A:List Int)(l:RL):Int:=F7 0 (l.map fun u=>u.2.val A)
theorem JK: ∀(a b:List Int) (n:Int),F7 n (a++b)=F7 (F7 n a) b
 | [],b,n=>rfl
 |v::a,b,n=>by rw[List.cons_append,F7,F7,JK a b]
def yp(A:List Int)(l:RL):Int:=match l with| []=>A.getD 3 0|u::_=>u.2.val A
theorem F8{l:RL}{v:T}(h:Rw 4 l v):lenI v=some (.i .i64 (l.length:Int))∧ ∀k (hk:k<l.length),∃b D r,(∀kk,iaV v (.i kk (k:Int)) 4=some (.vp (.s l[k].1:: .i .i64 l[k].2.op:: .i .i64 l[k].2.num::b::r)))∧IsSl b l[k].2.args.length D∧bf l[k].2.args D:=by
 obtain⟨n,cs,h1,h2,h3,h4⟩:=h
 rw[if_pos rfl]at h3
 have J:=aB.len RlR.len h3
 have e:n=l.length:=yv
 subst e
 refine⟨h1.lenI,fun k hk=> ?_⟩
 obtain⟨c,r,h5,K,rfl,h6⟩:=jK (k:=4) RlR.len h1 h3 k hk
 obtain⟨b,D,rfl,F,I⟩:=h6.cells
 exact⟨b,D,r,h5,F,I⟩
def YV(m r1 r2 r3 c1 c2 c3 cr nb:T):List T:= [m,.nilsl,r1,r2,r3,.nilsl,c1,c2,c3,cr,nb]
section
variable(c:Ct)(zT aT fT a7 a8 a9 aw aA az m r1 r2 r3 c1 c2 c3 cr nb:T)(A:List Int)(iA:T)(dh:IsSl iA A.length (ints A))
theorem OK(dh:IsSl iA A.length (ints A)):ae pE 82 [.i .i64 1,iA] []=some (iA,[]):=by
 rw[au as7 (by simp[c82])]
 simp only[qA,seval,c82,dh.froz]
include dh
theorem aDQ(l:RL)(hr:Rw 4 l r1)(O: ∀u∈l,Hc A u.2)(hlen:l.length≤1000)(r:Bool)(Ny:r=jk A l)(o:Out)(K:o=if r=true then .ext 0 else .ret)(fr:Fr)(lh:aD ah)(sh:List ah)(h0:aa fr 0=stV c zT aT fT a7 a8 a9 aw aA az (YV m r1 r2 r3 c1 c2 c3 cr nb))(h1:aa fr 1= .i .i64 1)(h2:aa fr 2=iA)(D:aa fr 17= .i .i64 (l.length:Int))(F:aa fr 18= .i .i64 0):
  pT 34 wE fr lh sh o∧
  ((r=false→aa (mY pE 34 wE fr lh sh) 6= .b false)∧iH pE 34 wE fr lh sh=sh):=by
 refine eu (fun k st=> ∃(fr:Fr) (lh:aD ah),st=⟨fr,lh,sh⟩∧r=jk A (l.drop k)∧aa fr 0=stV c zT aT fT a7 a8 a9 aw aA az (YV m r1 r2 r3 c1 c2 c3 cr nb)∧aa fr 1= .i .i64 1∧aa fr 2=iA∧aa fr 17= .i .i64 (l.length:Int)∧aa fr 18= .i .i64 (k:Int))
  (fun U aU V=>(r=false→aa U 6= .b false)∧V=sh) _ l.length ?_ ?_ fr lh sh ⟨fr,lh,rfl,Ny,h0,h1,h2,D,F⟩
 ·rintro k _ hk ⟨fr,lh,rfl,Ny,h0,h1,h2,D,F⟩
  have I:(k:Int)<l.length:=yv
  have W:=aG (k:=k) yv
  obtain⟨b,X,Y,J,Z,rP⟩:=(F8 hr).2 k hk
  have hv:=Mn A iA dh l[k].2 b X Y Z rP (O _ (List.getElem_mem hk))
  rw[List.drop_eq_getElem_cons hk]at Ny
  rw[show jk A (l[k]::l.drop (k+1))=(decide (l[k].2.val A≠0)&&jk A (l.drop (k+1)))from rfl]at Ny
  generalize l[k]=u at*
  generalize u.2.val A=x at*
  have hz:=dh.froz
  unfold stV aY YV at h0 ⊢
  simp only[List.cons_append,List.nil_append]at h0 ⊢
  simp only[qB,seval,eO,wE,h0,h1,h2,D,F,I,J,W,hv,hz,Aj]
  refine qx (fun h=> ?_) (fun h=> ?_)
  ·rw[decide_eq_false (by simpa using h),Bool.false_and]at Ny
   exact qy ⟨by rw[K,Ny];rfl,fun _=>wW,rfl⟩
  ·rw[decide_eq_true h,Bool.true_and]at Ny
   exact cU ⟨_,_,rfl,Ny,by simp only[qA,seval,h0],by simp only[qA,seval,h1],by simp only[qA,seval,h2],by simp only[qA,seval,D],by simp only[qA,seval]⟩
 ·rintro _ ⟨fr,lh,rfl,Ny,h0,h1,h2,D,F⟩
  rw[List.drop_length]at Ny
  simp only[qA,seval,wE,D,F,Int.lt_irrefl]
  exact fv ⟨by rw[K,Ny];rfl,fun h=>(by rw[Ny]at h;cases h),rfl⟩
theorem YW(l:RL)(hr:Rw 4 l r1)(D: ∀u∈l,Hc A u.2)(hlen:l.length≤1000):ae pE 44 [stV c zT aT fT a7 a8 a9 aw aA az (YV m r1 r2 r3 c1 c2 c3 cr nb),.i .i64 1,iA] []=some (.b (jk A l),[]):=by
 have r:=fun fr lh sh h0 h1 h2 F I=>aDQ c zT aT fT a7 a8 a9 aw aA az m r1 r2 r3 c1 c2 c3 cr nb A iA dh l hr D hlen _ rfl _ rfl fr lh sh h0 h1 h2 F I
 have CZ:=OK A iA dh
 have J:=(F8 hr).1
 have hz:=dh.froz
 unfold stV aY YV at*
 simp only[List.cons_append,List.nil_append]at*
 rw[au asL (by simp[c44])]
 cases K:jk A l <;> rw[K]at r
 all_goals simp only[qA,seval,eO,c44,CZ,J,r,hz,as8]
end
end Go.Proofs.YtnkgnjecmfkcfaaGreat
namespace Go.Ev
open Go
end Go.Ev
namespace Go.Proofs.YtnkgnjecmfkcfaaGreat
open Go Go.Ev
structure Lg where
 du:List (Int×Bool)
 rp:Int
 rl:Int
 fr:List Nat
 to:List Nat
 co:Int
 cr:Int
def F9(g:Lg)(v:T):List T:= [v,.i .i64 g.rp,.i .i64 g.rl,.s g.fr,.s g.to,.i .i64 g.co,.i .i64 g.cr]
def RM:Lg:=⟨[],0,0,[],[],0,0⟩
def l6(d:List (Int×Bool)):List T:=d.flatMap fun k=> [.i .i64 k.1,.b k.2]
theorem mP(d:List (Int×Bool)):(l6 d).length=d.length*2:=iT (sz:=2) (fun _=>rfl) d
theorem OL(a b:List (Int×Bool)):l6 (a++b)=l6 a++l6 b:=by grind [l6]
theorem OM: ∀{d:List (Int×Bool)} {D:List T},aB TkR d D→D=l6 d
 | [],D,h=>h
 |k::d,D,h=>by
  obtain⟨c,r,rfl,h1,h2⟩:=h
  rw[TkR]at h1
  rw[h1,OM h2];rfl
theorem JL: ∀d:List (Int×Bool),aB TkR d (l6 d)
 | []=>rfl
 |k::d=>⟨[.i .i64 k.1,.b k.2],l6 d,rfl,rfl,JL d⟩
theorem tw.sl{d:List (Int×Bool)}{v:T}(h:tw d v):IsSl v d.length (l6 d):=by
 obtain⟨r,h1,h2⟩:=h
 rwa [OM h2]at h1
theorem tw.of{d:List (Int×Bool)}{v:T}(h:IsSl v d.length (l6 d)):tw d v:=⟨_,h,JL d⟩
def sg(c:Ct):RL:=vD c 1 c.ru.length
def YX(c:Ct):RL:=tm c 1 c.co.length
def crS(c:Ct):RL:=Rv c c.cr.length
def iI(t:Tt)(c:Ct)(d:List (Int×Bool)):Bool:=jk (aN t c d) (sg c)
def cz(t:Tt)(c:Ct)(d:List (Int×Bool)):Lg:=⟨d,ph c (db t.fl d 0),pj c (db t.fl d (d.length-1)),(db t.fl d 0).fr,(db t.fl d (d.length-1)).to,mO (aN t c d) (YX c),yp (aN t c d) (crS c)⟩
theorem aiv{t:Tt}{c:Ct}(hc:fi c=0){A:List Int}(hA:JJ A):(∀u∈sg c,Hc A u.2)∧(∀u∈YX c,Hc A u.2)∧(∀u∈crS c,Hc A u.2)∧(sg c).length≤40∧(YX c).length≤40:=by
 obtain⟨h1,h2,h3,h4,h5,h6,_⟩:=mL c hc
 unfold sg YX crS vD tm Rv
 rw[List.take_length,List.take_length,List.take_length]
 refine⟨fun u r=> ?_,fun u r=> ?_,fun u r=> ?_, ?_, ?_⟩
 ·obtain⟨x,hx,rfl⟩:=List.mem_map.1 r
  grind [List.mem_filter.1,RK]
 ·obtain⟨x,hx,rfl⟩:=List.mem_map.1 r
  grind [List.mem_filter.1,RK]
 ·grind [List.mem_map.1,RK]
 ·grind
 ·grind
section
variable(t:Tt)(c:Ct)(zT aT fT a7 a8 a9 aw aA az:T)(vs:List T)(hT:kN t zT aT fT)(hV:yH t c vs)(ht:nR t=0)(hc:fi c=0)(d:List (Int×Bool))(dT:T)(hd:tw d dT)(h1:1≤d.length)(hlen:d.length≤100)(bo: ∀k∈d,lj t.fl.length k.1=true)
include hT ht hd h1 hlen bo
theorem YY: ∃i j r1 r2:_,∃(hi:i<t.fl.length) (r:j<t.fl.length),db t.fl d 0=t.fl[i]∧db t.fl d (d.length-1)=t.fl[j]∧(∀kk,iaV dT (.i kk 0) 2=some (.vp (.i .i64 (i:Int)::r1)))∧(∀kk,iaV dT (.i kk ((d.length-1:Nat):Int)) 2=some (.vp (.i .i64 (j:Int)::r2))):=by
 have _:=hT
 obtain⟨i,hi,I,J,_⟩:=dR (eP t ht).1 bo (k:=0) yv
 obtain⟨j,r,K,O,_⟩:=dR (eP t ht).1 bo (k:=d.length-1) yv
 obtain⟨r1,D⟩:=kO hd 0 yv
 obtain⟨r2,F⟩:=kO hd (d.length-1) yv
 rw[I]at D
 rw[K]at F
 exact⟨i,j,_,_,hi,r,J,O,D,F⟩
include hc
include hV
end
theorem fJ{c:Ct}{fl:List Fl}{d:List (Int×Bool)}(h:ev c fl d=0):1≤d.length∧d.length≤6∧(∀k∈d,lj fl.length k.1=true)∧qc c fl d=true:=by
 unfold ev at h
 split at h
 ·cases h
 split at h
 ·cases h
 split at h
 ·rename_i a
  split at h
  ·rename_i b;exact⟨by omega,by omega,List.all_eq_true.1 a,b⟩
  ·cases h
 ·cases h
def al6(t:Tt)(c:Ct)(d:List (Int×Bool)):Lg×Int:=if ev c t.fl d≠0 then(RM,ev c t.fl d)else if iI t c d=true then(cz t c d,0)else(RM,15)
def RN(t:Tt)(c:Ct)(d:List (Int×Bool)):Lg×Int:=if eK t c≠0 then(RM,eK t c)else al6 t c d
def LgT(g:Lg)(v:T):Prop:=IsSl v g.du.length (l6 g.du)
theorem ON(t:Tt)(c:Ct)(d:List (Int×Bool)):(cz t c d).du=d:=rfl
section
variable(t:Tt)(c:Ct)(zT aT fT a7 a8 a9 aw aA az:T)(vs:List T)(hT:kN t zT aT fT)(hC:mG c a7 a8 a9 aw aA az)(hN:Hb c)(d:List (Int×Bool))(dT:T)(hd:tw d dT)(hlen:d.length≤1000)
include hT hd hlen
include hC hN
end
end Go.Proofs.YtnkgnjecmfkcfaaGreat
namespace Go.Ev
open Go
section
variable{E:Env}{call:jP}{n:Nat}{fr:Fr}{lh:aD ah}{sh:List ah}{os:List aF}{d:Nat}
theorem JM{sh:List ah}{v:ah}:bI sh sh.length v=sh++ [v]:=by
 induction sh with
 |nil=>rfl
 |cons e l ih=>rw[List.length_cons,rM,ih];rfl
theorem aen{sh:List ah}{v:ah}{k:Nat}(h:k=sh.length):bI sh k v=sh++ [v]:=by rw[h];exact JM
end
end Go.Ev
namespace Go.Proofs.YtnkgnjecmfkcfaaGreat
open Go Go.Ev
theorem po{α:Type}(v:α): ∀(cs:List α) (i:Nat),i<cs.length→splice cs i [v]=cs.set i v
 |c::cs,0,_=>by simp[splice]
 |c::cs,i+1,h=>by simp[splice,po v cs i (by simpa using h)]
def inB(N:Nat)(l:List Int):List Bool:=(List.range N).map fun(i:Nat)=>decide ((i:Int)∈l)
def xw(l:List Bool):List T:=l.map T.b
theorem vN(N:Nat)(l:List Int):(xw (inB N l)).length=N:=by simp[xw,inB]
theorem aeo(N:Nat):xw (inB N [])=List.replicate N (.b false):=by
 simp only[xw,inB,List.map_map]
 exact List.eq_replicate_iff.2 ⟨by simp,fun b r=>by
  obtain⟨i,_,rfl⟩:=List.mem_map.1 r
  simp⟩
theorem YZ(N:Nat)(l:List Int)(x:Int)(h0:0≤x)(hN:x<N):splice (xw (inB N l)) x.toNat [.b true]=xw (inB N (l++ [x])):=by
 rw[po _ _ _ (by rw[vN];omega)]
 refine List.ext_getElem (by simp[xw,inB]) fun i h1 h2=> ?_
 rw[List.getElem_set]
 simp only[xw,inB,List.getElem_map,List.getElem_range,List.mem_append,List.mem_singleton]
 by_cases e:x.toNat=i
 ·rw[if_pos e]
  have:(i:Int)=x:=yv
  simp[this]
 ·rw[if_neg e]
  have: ¬(i:Int)=x:=yv
  simp[this]
def eV(N:Nat)(r:Nat→Int):List T:=(List.range N).map fun(g:Nat)=>T.i .i64 (r g)
def rfs(r N:Nat):List T:= [.isl .S r 1 0 N 1,.isl .S (r+1) 1 0 N 1,.isl .S (r+2) 1 0 N 1,.isl .S (r+3) 1 0 N 1,.isl .S (r+4) 1 0 N 1,.isl .S (r+5) 1 0 N 1,.isl .S (r+6) 1 0 N 1]
theorem vO(N:Nat)(r:Nat→Int){f:Nat}(D:f<N):(eV N r)[f]? =some (.i .i64 (r f)):=by
 unfold eV;rw[List.getElem?_map,List.getElem?_range D];rfl
theorem nY(N:Nat)(r:Nat→Int):(eV N r).length=N:=by simp[eV]
theorem JN(N:Nat)(r:Nat→Int)(f:Nat)(v:Int)(D:f<N):splice (eV N r) f [.i .i64 v]=eV N fun g=>if g=f then v else r g:=by
 rw[po _ _ _ (by rw[nY];exact D)]
 refine List.ext_getElem (by simp[eV]) fun i h1 h2=> ?_
 rw[List.getElem_set]
 simp only[eV,List.getElem_map,List.getElem_range]
 by_cases e:f=i
 ·subst e;simp
 ·rw[if_neg e,if_neg (fun h=>e h.symm)]
theorem gse(R:List ah)(i j:Nat)(e:ah):aI (bI R i e) j=if j=i then e else aI R j:=nv _ _ _ _ _
structure Cc (sh:List ah) (N H rb a kT:Nat) (OO:T) (n:Nat→Nat→Int) (t:Int):Prop where
 g0:aI sh 0=⟨1,.cells [.i .i64 (H:Int)] 0 true⟩
 g1:aI sh 1=⟨1,.cells [OO] 0 true⟩
 gA:aI sh a=⟨1,.cells (rfs rb N) 0 true⟩
 gT:aI sh kT=⟨1,.cells [.i .i64 t] 0 true⟩
 gR: ∀i,i<7→aI sh (rb+i)=⟨1,.cells (eV N (n i)) 0 false⟩
 b:rb+7≤sh.length∧kT<sh.length
theorem BO{N:Nat}{r s:Nat→Int}(h: ∀g,r g=s g):eV N r=eV N s:=by rw[show r=s from funext h]
theorem yq{E:Env}{n:Nat}{a:ak}{m:Nat}(r:eC (ch (.loop a))=m){fr:Fr}{lh:aD ah}{sh:List ah}{D:Option (Out×St)}(F:DC E n (.loop a) ⟨fr,lh,sh⟩=D){o:Out}{P:Fr→aD ah→List ah→Prop}(h:Lp E n a fr lh sh o P):
  ∃f l s,D=some (o,⟨f,l,s⟩)∧P f l s∧ ∀j,(m >>> j)%2=0→aa f j=aa fr j:=
 ⟨_,_,_,F.symm.trans h.1,h.2,fun j I=>DQ (by rw[r];exact I)⟩
theorem rS{a b:List ah}{k:Nat}(h:k<a.length):aI (a++b) k=aI a k:=by
 induction a generalizing k with
 |nil=>simp at h
 |cons x xs ih=>
  cases k with
  |zero=>rfl
  |succ k=>rw[List.cons_append,rL,rL,ih (by simpa using h)]
theorem Eh{a b:List ah}{k:Nat}:aI (a++b) (a.length+k)=aI b k:=by
 induction a with
 |nil=>rw[List.nil_append,List.length_nil,Nat.zero_add]
 |cons x xs ih=>rw[List.cons_append,List.length_cons,show xs.length+1+k=(xs.length+k)+1 by omega,rL,ih]
structure Cr (sh:List ah) (N H:Nat) (OO:T) (rn:Nat) (now:Nat→Nat→Int) (t:Int):Prop where
 g0:aI sh 0=⟨1,.cells [.i .i64 (H:Int)] 0 true⟩
 g1:aI sh 1=⟨1,.cells [OO] 0 true⟩
 gB:aI sh 9=⟨1,.cells (rfs rn N) 0 true⟩
 gT:aI sh 10=⟨1,.cells [.i .i64 t] 0 true⟩
 gR: ∀i,i<7→aI sh (rn+i)=⟨1,.cells (eV N (now i)) 0 false⟩
 b:11≤sh.length∧rn+7≤sh.length∧(rn=2∨11≤rn)
section
variable(N H:Nat)(OO nT:T)(cg:Nat→Bool)(nx:Nat→List Nat)(iD: ∀f,f<N→ ∃q,∀kk,iaV OO (.i kk (f:Int)) 1=some (.vp (.b (cg f)::q)))(iw: ∀f,f<N→ ∃gT q,(∀kk,iaV nT (.i kk (f:Int)) 1=some (.vp (gT::q)))∧IsSl gT (nx f).length (ints ((nx f).map Int.ofNat))∧(nx f).length≤1000∧ ∀g∈nx f,g<N)(hH:H≤6)(hN:N≤1000)
include iD iw hH hN
end
section
variable(t:Tt)(c:Ct)(zT aT fT a7 a8 a9 aw aA az:T)(vs:List T)(hT:kN t zT aT fT)
theorem aDS(hT:kN t zT aT fT)(d:List (Int×Bool))(dT:T)(hd:tw d dT)(hlen:d.length≤1000)(r:Bool)(hr:r=d.all fun k=>lj t.fl.length k.1)(o:Out)(U:o=if r=true then .ext 0 else .ret)(fr:Fr)(lh:aD ah)(sh:List ah)
  (h0:aa fr 0=stV c zT aT fT a7 a8 a9 aw aA az vs) (F:aa fr 16=dT) (D:aa fr 17= .i .i64 (d.length:Int)) (I:aa fr 18= .i .i64 0):
  pT 48 sM fr lh sh o∧((r=false→aa (mY pE 48 sM fr lh sh) 4= .i .i64 6)∧iH pE 48 sM fr lh sh=sh):=by
 refine eu (fun k st=> ∃(fr:Fr) (lh:aD ah),st=⟨fr,lh,sh⟩∧r=((d.drop k).all fun k=>lj t.fl.length k.1)∧aa fr 0=stV c zT aT fT a7 a8 a9 aw aA az vs∧aa fr 16=dT∧aa fr 17= .i .i64 (d.length:Int)∧aa fr 18= .i .i64 (k:Int)) (fun V aU W=>(r=false→aa V 4= .i .i64 6)∧W=sh) o d.length ?_ ?_ fr lh sh ⟨fr,lh,rfl,hr,h0,F,D,I⟩
 ·rintro k _ hk ⟨fr,lh,rfl,hr,h0,F,D,I⟩
  have J:(k:Int)<d.length:=yv
  have X:=aG (k:=k) yv
  obtain⟨rr,K⟩:=kO hd k hk
  rw[Yy hk]at hr
  obtain⟨Y,Z,f2⟩:=hT.f
  have O:=Yv zT aT fT (aY c a7 a8 a9 aw aA az++vs) Y t.fl.length Z d[k].1
  rw[show decide (0≤d[k].1∧d[k].1<(t.fl.length:Int))=lj t.fl.length d[k].1 from rfl]at O
  unfold stV at*
  generalize d[k]=y at*
  cases hv:lj t.fl.length y.1 <;> rw[hv]at O hr <;> simp only[Bool.true_and,Bool.false_and]at hr
  all_goals simp only[qA,seval,sM,h0,F,D,I,J,X,K,O,asW]
  all_goals first
   |exact qy ⟨by rw[U,hr];rfl,fun _=>wW,rfl⟩
   |exact cU ⟨_,_,rfl,hr,by simp only[qA,seval,h0],by simp only[qA,seval,F],by simp only[qA,seval,D],by simp only[qA,seval]⟩
 ·rintro _ ⟨fr,lh,rfl,hr,h0,F,D,I⟩
  rw[List.drop_length]at hr
  simp only[qA,seval,sM,D,I,Int.lt_irrefl]
  grind [fv]
theorem aDT(hT:kN t zT aT fT)(d:List (Int×Bool))(dT:T)(hd:tw d dT)(h1:1≤d.length)(hlen:d.length≤1000)(bo: ∀k∈d,lj t.fl.length k.1=true)(r:Bool)(hr:r=qc c t.fl d)(o:Out)(K:o=if r=true then .ext 2 else .ret)(fr:Fr)(lh:aD ah)(sh:List ah)
  (h0:aa fr 0=stV c zT aT fT a7 a8 a9 aw aA az vs) (h1:aa fr 1=dT) (F:aa fr 7= .i .i64 1):
  pT 48 wy fr lh sh o∧((r=false→aa (mY pE 48 wy fr lh sh) 4= .i .i64 14)∧iH pE 48 wy fr lh sh=sh):=by
 refine eu (fun k st=> ∃(fr:Fr),st=⟨fr,lh,sh⟩∧r=qc c t.fl (d.drop k)∧aa fr 0=stV c zT aT fT a7 a8 a9 aw aA az vs∧aa fr 1=dT∧aa fr 7= .i .i64 ((k+1:Nat):Int)) (fun O X U=>(r=false→aa O 4= .i .i64 14)∧U=sh) o (d.length-1) ?_ ?_ fr lh sh ⟨fr,rfl,hr,h0,h1,F⟩
 ·rintro k _ hk ⟨fr,rfl,hr,h0,h1,F⟩
  have D:((k+1:Nat):Int)<d.length:=yv
  have V:=aG (k:=k+1) yv
  have W:wr .i64 (((k+1:Nat):Int)-1)=(k:Int):=by rw[bj yv];omega
  obtain⟨Y,I⟩:=kO hd k yv
  obtain⟨r2,KI⟩:=kO hd (k+1) yv
  rw[FZ c t.fl (by omega:k+1<d.length)]at hr
  have J:=Yz t c zT aT fT a7 a8 a9 aw aA az vs hT (bo _ (List.getElem_mem (by omega:k<d.length))) (bo _ (List.getElem_mem (by omega:k+1<d.length)))
  unfold stV at*
  generalize d[k]=x at*
  generalize d[k+1]=y at*
  cases hv:pL c t.fl x.1 y.1 <;> rw[hv]at J hr <;> simp only[Bool.true_and,Bool.false_and]at hr
  all_goals simp only[qA,seval,bp,aH,wy,h0,h1,F,hd.choose_spec.1.lenI,D,V,W,I,KI,J,aAZ,aA0]
  all_goals first
   |exact qy ⟨by rw[K,hr];rfl,fun _=>wW,rfl⟩
   |exact cU ⟨_,rfl,hr,by simp only[qA,seval,h0],by simp only[qA,seval,h1],by simp only[qA,seval]⟩
 ·rintro _ ⟨fr,rfl,hr,h0,h1,F⟩
  rw[Ot c t.fl yv]at hr
  have D: ¬((d.length-1+1:Nat):Int)<d.length:=yv
  simp only[qA,seval,wy,h1,F,hd.choose_spec.1.lenI,D]
  grind [fv]
theorem Mo(hT:kN t zT aT fT)(d:List (Int×Bool))(dT:T)(hd:tw d dT)(hlen:d.length≤1000):ae pE 36 [stV c zT aT fT a7 a8 a9 aw aA az vs,dT] []=some (.i .i64 (ev c t.fl d),[]):=by
 have Rz:=fun fr lh sh h0 F I J=>aDS t c zT aT fT a7 a8 a9 aw aA az vs hT d dT hd hlen _ rfl _ rfl fr lh sh h0 F I J
 have BH:=hd.choose_spec.1.lenI
 rw[au asz (by simp[c36])]
 unfold ev
 cases D:d.all fun k=>lj t.fl.length k.1 <;> rw[D]at Rz
 ·simp only[qB,seval,c36,Rz,BH,itI]
 ·by_cases h1:1≤d.length
  ·have Jv:=fun fr lh sh h0 r K=>aDT t c zT aT fT a7 a8 a9 aw aA az vs hT d dT hd h1 hlen (List.all_eq_true.1 D) _ rfl _ rfl fr lh sh h0 r K
   cases hc:qc c t.fl d <;> rw[hc]at Jv
   all_goals simp only[qB,seval,c36,S6,Jv,Rz,BH,itI]
  ·have r:(d.length:Int)<1:=yv
   simp only[qB,seval,c36,BH,r]
end
def fH(A:List Int)(l:RL):List (List Nat):=(l.filter fun u=>decide (u.2.val A=0)).map Prod.fst
theorem Y1(A:List Int)(l:RL):fH A l= []↔jk A l=true:=by
 unfold fH jk
 rw[List.map_eq_nil_iff,List.filter_eq_nil_iff,List.all_eq_true]
 simp
theorem Y3(A:List Int)(l:RL)(k:Nat)(h:k<l.length):fH A (l.take (k+1))=if l[k].2.val A=0 then fH A (l.take k)++ [l[k].1]else fH A (l.take k):=by
 unfold fH
 rw[List.take_succ_eq_append_getElem h,List.filter_append,List.map_append]
 by_cases h0:l[k].2.val A=0 <;> simp[h0]
theorem OP(A:List Int)(l:RL):(fH A l).length≤l.length:=by
 unfold fH
 rw[List.length_map]
 exact List.length_filter_le _ _
section
variable(c:Ct)(zT aT fT a7 a8 a9 aw aA az m r1 r2 r3 c1 c2 c3 cr nb:T)(A:List Int)(iA:T)(dh:IsSl iA A.length (ints A))
include dh
theorem aDU(l:RL)(hr:Rw 4 l r1)(Y: ∀u∈l,Hc A u.2)(hlen:l.length≤1000)(fr:Fr)(lh:aD ah)(sh:List ah)(h0:aa fr 0=stV c zT aT fT a7 a8 a9 aw aA az (YV m r1 r2 r3 c1 c2 c3 cr nb))(h1:aa fr 1= .i .i64 1)(h2:aa fr 2=iA)(Z:aa fr 7= .nilsl)(Bu:aa fr 19= .i .i64 (l.length:Int))(O:aa fr 20= .i .i64 0):
  Lp pE 46 sS fr lh sh (.ext 0) fun f q s=>s=sh∧bg q (aa f 7) 43 1 (fH A l).length ((fH A l).map T.s):=by
 refine cV HJ (fun k f q s=>aa f 20= .i .i64 (k:Int)∧s=sh∧bg q (aa f 7) 43 1 (fH A (l.take k)).length ((fH A (l.take k)).map T.s)) l.length ⟨O,rfl,by rw[Z];exact bg.nil⟩ ?_ ?_
 ·rintro k f q _ hk K ⟨r,rfl,D⟩
  have F:(k:Int)<l.length:=yv
  have W:=aG (k:=k) yv
  obtain⟨b,cb,rr,I,fL,rP⟩:=(F8 hr).2 k hk
  have hv:=Mn A iA dh l[k].2 b cb rr fL rP (Y _ (List.getElem_mem hk))
  have hz:=dh.froz
  have U:=OP A (l.take k)
  rw[List.length_take]at U
  have V:=fun(x:T) (aU:aD ah) (aX:List ah) (e:ab aU 43=ab q 43)=>dO (sh:=aX) (D.congr e) [x] rfl (bytes:=16) (by unfold roomy;omega) true
  have X:=D.notS
  rw[Y3 A l k hk]
  generalize fH A (l.take k)=B at*
  generalize J:aa f 7=v7 at D V X
  generalize l[k]=u at*
  generalize u.2.val A=x at*
  unfold stV aY YV at h0
  simp only[List.cons_append,List.nil_append]at h0
  by_cases hx:x=0
  ·simp(maxDischargeDepth:=6) only[qA,seval,gd,repl,eO,sS,K,h0,h1,h2,Bu,r,J,F,I,W,hv,hz,Aj,hx,V,X]
   obtain⟨_,k1,k2⟩:=V (.s u.1) q _ rfl
   rw[show(B++ [u.1]).map T.s=B.map T.s++ [.s u.1]by simp,show(B++ [u.1]).length=B.length+1 by simp]
   exact k1
  ·simp(maxDischargeDepth:=6) only[qA,seval,gd,eO,sS,K,h0,h1,h2,Bu,r,J,F,I,W,hv,hz,Aj,hx]
   exact D
 ·rintro f q _ K ⟨r,rfl,D⟩
  rw[List.take_length]at D
  simp only[qA,seval,gd,sS,K,Bu,r,Int.lt_irrefl]
  exact D
theorem al7(l:RL)(hr:Rw 4 l r1)(r: ∀u∈l,Hc A u.2)(hlen:l.length≤1000):ae pE 85 [stV c zT aT fT a7 a8 a9 aw aA az (YV m r1 r2 r3 c1 c2 c3 cr nb),.i .i64 1,iA] []=some (bA (fH A l).length ((fH A l).map T.s),[]):=by
 have F:=fun fr lh sh=>aDU c zT aT fT a7 a8 a9 aw aA az m r1 r2 r3 c1 c2 c3 cr nb A iA dh l hr r hlen fr lh sh
 have CZ:=OK A iA dh
 have I:=(F8 hr).1
 have hz:=dh.froz
 unfold stV aY YV at*
 simp only[List.cons_append,List.nil_append]at*
 rw[au atb (by simp[c85])]
 simp(maxDischargeDepth:=6) only[qA,seval,eO,c85,CZ,I,hz,as8]
 generalize J:DC pE 46 (.loop sS) _=D
 obtain⟨O,U,s2,rfl,⟨rfl,K⟩,V⟩:=yq HJ J (F _ _ _ wW wW wW wW wW wW)
 have e:=K.fzV (sh:=([]:List ah)) (keep:=false)
 simp(maxDischargeDepth:=6) only[qA,xk,seval,e]
end
def OQ(l:List (List Nat)):List T:=l.flatMap fun s=> [.i .i64 1,.i .i64 0,.s s]
theorem axq(l:List (List Nat))(hlen:l.length≤1000):ae pE 84 [.nilsl,.i .i64 1,.i .i64 0,bA l.length (l.map T.s)] []=some (bA l.length (OQ l),[]):=by
 have J:IsSl (bA l.length (l.map T.s)) l.length (l.map T.s):=fe fun h=>by rw[List.length_eq_zero_iff.1 h];rfl
 have Z:=J.lenI
 have hz:=J.froz
 have hL: ∀fr lh sh,aa fr 0= .nilsl→aa fr 1= .i .i64 1→aa fr 2= .i .i64 0→aa fr 11=bA l.length (l.map T.s)→aa fr 12= .i .i64 (l.length:Int)→aa fr 13= .i .i64 0→Lp pE 26 wL fr lh sh (.ext 0) fun f q s=>s=sh∧bg q (aa f 0) 23 3 l.length (OQ l):=by
  intro fr lh sh h0 h1 h2 K I ig
  refine cV HI (fun k f q s=>aa f 13= .i .i64 (k:Int)∧s=sh∧bg q (aa f 0) 23 3 k (OQ (l.take k))) l.length ⟨ig,rfl,by rw[h0];exact bg.nil⟩ ?_ ?_
  ·rintro k f q _ hk O ⟨F,rfl,r⟩
   have U:(k:Int)<l.length:=yv
   have hw:=aG (k:=k) yv
   have W:=fun kk=>J.ia (sz:=1) (k:=k) (kk:=kk) (by rw[List.length_map,Nat.mul_one]) hk
   rw[Nat.mul_one,List.drop_eq_getElem_cons (by rw[List.length_map];exact hk),List.getElem_map]at W
   have X:=fun(x:T) (aU:aD ah) (aX:List ah) (e:ab aU 23=ab q 23)=>dO (sh:=aX) (r.congr e) [.i .i64 1,.i .i64 0,x] rfl (bytes:=32) (by unfold roomy;omega) true
   have Y:=r.notS
   rw[List.take_succ_eq_append_getElem hk,show OQ (l.take k++ [l[k]])=OQ (l.take k)++ [.i .i64 1,.i .i64 0,.s l[k]]by unfold OQ;rw[List.flatMap_append];rfl]
   generalize OQ (l.take k)=B at*
   generalize V:aa f 0=v7 at r X Y
   simp(maxDischargeDepth:=6) only[qA,seval,gd,repl,wL,O,h1,h2,K,I,F,V,U,W,hw,X,Y]
  ·rintro f q _ O ⟨F,rfl,r⟩
   rw[List.take_length]at r
   simp only[qA,seval,gd,wL,O,I,F,Int.lt_irrefl]
   exact r
 rw[au ata (by simp[c84])]
 simp(maxDischargeDepth:=6) only[qA,seval,c84,Z]
 generalize hD:DC pE 26 (.loop wL) _=D
 obtain⟨f2,l2,s2,rfl,⟨rfl,r⟩,lD⟩:=yq HI hD (hL _ _ _ wW wW wW wW wW wW)
 have e:=r.fzV (sh:=([]:List ah)) (keep:=false)
 simp(maxDischargeDepth:=6) only[qA,xk,seval,e]
section
variable(t:Tt)(c:Ct)(zT aT fT a7 a8 a9 aw aA az:T)(hT:kN t zT aT fT)(hC:mG c a7 a8 a9 aw aA az)(hA:Hb c)(hk:eK t c=0)(d:List (Int×Bool))(dT:T)(hd:tw d dT)(hlen:d.length≤1000)
include hT hC hA hk hd hlen
theorem aer: ∃vs,ae pE 45 [.agg [zT,aT,fT],.agg (aY c a7 a8 a9 aw aA az),dT] []=some (if ev c t.fl d=0 then .tup [stV c zT aT fT a7 a8 a9 aw aA az vs,.i .i64 0]else .tup [.nilptr,.i .i64 (ev c t.fl d)],[])∧yH t c vs:=by
 obtain⟨s,vs,e1,r⟩:=Ov t c zT aT fT a7 a8 a9 aw aA az hT hC hA hk
 refine⟨vs, ?_,r⟩
 have hz:=yJ t c zT aT fT a7 a8 a9 aw aA az hT hC
 have Y4:=hd.sl.froz
 have e2:=Mo t c zT aT fT a7 a8 a9 aw aA az vs hT d dT hd hlen
 have Cm:=lS c zT aT fT a7 a8 a9 aw aA az vs
 have D:froz1 (stV c zT aT fT a7 a8 a9 aw aA az vs)=true:=rfl
 generalize ev c t.fl d=E at*
 unfold aY at*
 rw[au asM (by simp[c45])]
 by_cases F:E=0
 all_goals simp(maxDischargeDepth:=6) only[qA,seval,c45,hz,e1,e2,Uy,ajs,Y4,Cm,D,F]
theorem aes: ∃vs,ae pE 42 [.agg [zT,aT,fT],.agg (aY c a7 a8 a9 aw aA az),dT] []=some (if ev c t.fl d=0 then .tup [stV c zT aT fT a7 a8 a9 aw aA az vs,.i .i64 0]else .tup [.nilptr,.i .i64 (ev c t.fl d)],[])∧yH t c vs:=by
 obtain⟨s,vs,e1,r⟩:=Ov t c zT aT fT a7 a8 a9 aw aA az hT hC hA hk
 refine⟨vs, ?_,r⟩
 have hz:=yJ t c zT aT fT a7 a8 a9 aw aA az hT hC
 have Y4:=hd.sl.froz
 have e2:=Mo t c zT aT fT a7 a8 a9 aw aA az vs hT d dT hd hlen
 have Cm:=lS c zT aT fT a7 a8 a9 aw aA az vs
 have D:froz1 (stV c zT aT fT a7 a8 a9 aw aA az vs)=true:=rfl
 generalize ev c t.fl d=E at*
 unfold aY at*
 rw[au asI (by simp[c42])]
 by_cases F:E=0
 all_goals simp(maxDischargeDepth:=6) only[qA,seval,c42,hz,e1,e2,Uy,ajs,Y4,Cm,D,F]
theorem aet:ae pE 14 [.agg [zT,aT,fT],.agg (aY c a7 a8 a9 aw aA az),dT] []=some (if ev c t.fl d=0 then .tup [bA (fH (aN t c d) (sg c)).length (OQ (fH (aN t c d) (sg c))),.i .i64 0]else .tup [.nilsl,.i .i64 (ev c t.fl d)],[]):=by
 obtain⟨vs,e1,hS⟩:=aer t c zT aT fT a7 a8 a9 aw aA az hT hC hA hk d dT hd hlen
 have hz:=yJ t c zT aT fT a7 a8 a9 aw aA az hT hC
 have Y4:=hd.sl.froz
 have Cm:=lS c zT aT fT a7 a8 a9 aw aA az vs
 have yN:froz1 (stV c zT aT fT a7 a8 a9 aw aA az vs)=true:=rfl
 by_cases J:ev c t.fl d=0
 ·obtain⟨h1,h6,bo,_⟩:=fJ J
  obtain⟨ht,hc⟩:=ng t c zT aT fT a7 a8 a9 aw aA az hT hC hA hk
  obtain⟨s1,D⟩:=YQ t c zT aT fT a7 a8 a9 aw aA az vs hT hS ht hc d dT hd h1 yv bo
  have SX:=lX (t:=t) (c:=c) ht hc h1 (show d.length≤100 by omega) bo
  obtain⟨g1,g2,g3,g4,g5⟩:=aiv (t:=t) hc SX
  have dh:IsSl (.sl (ints (aN t c d)) 11 false) (aN t c d).length (ints (aN t c d)):= .inr ⟨false,by rw[SX.1]⟩
  have hbl:=OP (aN t c d) (sg c)
  obtain⟨q,r1,r2,r3,c1,c2,c3,cr,nb,r,_,_,F,_,_,K,_,_,O⟩:=hS
  have r:vs=YV (.vm (q.map fun p=>sK p.1) (q.map fun p=>T.agg p.2)) r1 r2 r3 c1 c2 c3 cr (.b nb):=r
  have U:=al7 c zT aT fT a7 a8 a9 aw aA az (.vm (q.map fun p=>sK p.1) (q.map fun p=>T.agg p.2)) r1 r2 r3 c1 c2 c3 cr (.b nb) _ _ dh (sg c) F g1 yv
  rw[←r]at U
  have hv:=axq (fH (aN t c d) (sg c)) yv
  have W:froz (bA (fH (aN t c d) (sg c)).length ((fH (aN t c d) (sg c)).map T.s))=true:=by unfold bA;split <;> rfl
  have X:froz1 (bA (fH (aN t c d) (sg c)).length (OQ (fH (aN t c d) (sg c))))=true:=by unfold bA;split <;> rfl
  have Y:froz (bA (fH (aN t c d) (sg c)).length (OQ (fH (aN t c d) (sg c))))=true:=by unfold bA;split <;> rfl
  rw[if_pos J]at e1 ⊢
  generalize bA (fH (aN t c d) (sg c)).length (OQ (fH (aN t c d) (sg c)))=V at*
  generalize bA (fH (aN t c d) (sg c)).length ((fH (aN t c d) (sg c)).map T.s)=B at*
  have Z:ae pE 46 [stV c zT aT fT a7 a8 a9 aw aA az vs,dT] []=some (V,[]):=by
   rw[au asO (by simp[c46])]
   have hiz:froz (.sl (ints (aN t c d)) 11 false)=true:=rfl
   generalize ints (aN t c d)=I at*
   simp(maxDischargeDepth:=6) only[qA,seval,c46,D,U,hv,asK,aA4,aA5,Y4,Cm,W,Y,hiz]
  clear U hv D dh F K O g1 g2 g3
  generalize stV c zT aT fT a7 a8 a9 aw aA az vs=S at*
  unfold aY at*
  rw[au ajj (by simp[c14])]
  simp(maxDischargeDepth:=6) only[qA,seval,c14,hz,e1,Z,asN,aAP,Y4,Cm,X]
 ·rw[if_neg J]at e1 ⊢
  generalize ev c t.fl d=E at*
  unfold aY at*
  rw[au ajj (by simp[c14])]
  simp(maxDischargeDepth:=6) only[qA,seval,c14,hz,e1,asN,Y4,J]
end
end Go.Proofs.YtnkgnjecmfkcfaaGreat
