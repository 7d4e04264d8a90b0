/- Walks of functions of the program and of the reference, and their plain laws, part 11. Conditions: the theorems' own. -/
import Derived.Test.YtjniffjppoklpaaGreatM10
import Derived.KernelRfl
set_option maxRecDepth 100000
set_option linter.unusedSimpArgs false
set_option linter.unusedVariables false
set_option maxHeartbeats 16000000
namespace Go.Proofs.YtjniffjppoklpaaGreat
open Go Go.Ev
theorem alR(zT aT fT:T)(D H:List T)(n:Nat)(F:iJ fT n H)(i:Int):be pE 39 [.vp (zT::aT::fT::D),.i .i64 i] []=some (.b (decide (0≤i∧i<(n:Int))),[]):=by
 rw[iD arn (by simp[c39])]
 by_cases r:0≤i
 ·by_cases E:i<(n:Int)
  ·simp only[qA,seval,c39,F.lenI,r,E]
   try simp[r,E]
  ·simp only[qA,seval,c39,F.lenI,r,E]
   try simp[r,E]
 ·simp only[qA,seval,c39,r]
  try simp[r]
theorem Pn(zT aT fT:T)(D E:List T)(l:List Fl)(F:iJ fT l.length E)(H:iK T4 l E)(k:Nat)(I:k<l.length): ∃r,be pE 59 [.vp (zT::aT::fT::D),.i .i64 (k:Int)] []=some (.vp (.s l[k].nu:: .s l[k].fr:: .s l[k].to:: .i .i64 l[k].dp:: .i .i64 l[k].ar:: .s l[k].ty:: .i .i64 l[k].n0:: .i .i64 l[k].n1:: .i .i64 l[k].n2::r),[]):=by
 obtain⟨r,J⟩:=uh F H k I
 refine⟨r, ?_⟩
 rw[iD ajQ (by simp[c59])]
 simp only[qA,seval,c59,J]
def Po(c:Ct)(f g:Fl):Bool:=decide (f.to=g.fr)&&(decide (c.cn≤wr .i64 (g.dp-f.ar))&&decide (wr .i64 (g.dp-f.ar)≤c.st))
theorem alS(zT aT fT a7 a8 a9 a10 iH iG:T)(c:Ct)(vs F:List T)(l:List Fl)(I:iJ fT l.length F)(J:iK T4 l F)(i j:Nat)(hi:i<l.length)(K:j<l.length):be pE 35 [.vp (zT::aT::fT::(jb c a7 a8 a9 a10 iH iG++vs)),.i .i64 (i:Int),.i .i64 (j:Int)] []=some (.b (Po c l[i] l[j]),[]):=by
 obtain⟨r,D⟩:=Pn zT aT fT (jb c a7 a8 a9 a10 iH iG++vs) F l I J i hi
 obtain⟨N,E⟩:=Pn zT aT fT (jb c a7 a8 a9 a10 iH iG++vs) F l I J j K
 rw[iD ark (by simp[C5])]
 generalize l[i]=f at*
 generalize l[j]=g at*
 unfold jb at D E ⊢
 simp only[List.cons_append,List.nil_append]at D E ⊢
 unfold Po
 by_cases e:f.to=g.fr
 ·by_cases H:c.cn≤wr .i64 (g.dp-f.ar)
  ·simp only[qA,seval,C5,D,E,GC,e,H]
   try simp[e,H]
  ·simp only[qA,seval,C5,D,E,GC,e,H]
   try simp[e,H]
 ·simp only[qA,seval,C5,D,E,GC,e]
  try simp[e]
structure Sta where
 ff:Int
 fh:Bool
 lf:Int
 lh:Bool
 lg:Int
 hd:Int
 bl:Int
 lo:Int
 so:Int
 ty:List (List Nat)
def yy(n:Nat)(i:Int):Bool:=decide (0≤i∧i<(n:Int))
theorem Q8{n a b:Int}:CW n a b=true↔a≤n∧n≤b:=by
 grind [CW]
def B2(f:Fl):Prop:=pO f.ty=true∧2880≤f.dp∧f.ar≤52593120∧f.dp<f.ar∧f.ar-f.dp≤1440
theorem alT{r:List (List Nat)}{f:Fl}(h:MG r f=0):B2 f:=by
 unfold MG at h
 split at h
 ·cases h
 split at h
 ·cases h
 split at h
 ·cases h
 split at h
 ·cases h
 split at h
 ·cases h
 split at h
 ·cases h
 rename_i a b c d e g
 have g:T5 f=true:=by simpa using g
 unfold T5 at g
 simp only[Bool.and_eq_true,decide_eq_true_eq]at g
 exact⟨by simpa using b,g⟩
theorem ZN(D:List (List Nat)): ∀(l:List Fl) (p:Option Fl),Jr D p l=0→ ∀f∈l,B2 f
 | [],_,_,f,hf=>by cases hf
 |g::r,p,h,f,hf=>by
  unfold Jr at h
  by_cases a:MG D g=0
  ·rw[if_neg (by simp[a])]at h
   rcases List.mem_cons.1 hf with rfl|hf
   ·exact alT a
   ·have:Jr D (some g) r=0:=by
     grind
    exact ZN D r _ this f hf
  ·grind
theorem n5(t:Tt)(h:uf t=0):(∀f∈t.fl,B2 f)∧t.fl.length≤200:=by
 unfold uf at h
 split at h
 ·cases h
 split at h
 ·cases h
 split at h
 ·cases h
 split at h
 ·grind
 split at h
 ·rename_i q;exact absurd h q
 rename_i a b c d e
 exact⟨ZN _ _ _ h,by omega⟩
theorem ZO(c:Ct)(h:nL c=0):0≤c.cn∧c.cn≤1440∧c.st≤1440∧(0≤c.rp∧c.rp≤1440)∧(0≤c.rl∧c.rl≤1440):=by
 unfold nL at h
 split at h
 ·grind
 rename_i g
 have g:oQ c=0:=by omega
 unfold oQ at g
 split at g
 ·cases g
 simp_all[qY,Bool.and_eq_true,Q8]
theorem itI{p:Prop}[Decidable p]{α:Type}{k:IntKind}{a b:Int}{s:α}:(if p then some (T.i k a,s)else some (T.i k b,s))=some (T.i k (if p then a else b),s):=by split <;> rfl
def TkR(k:Int×Bool)(c:List T):Prop:=c= [.i .i64 k.1,.b k.2]
theorem TkR.len(k:Int×Bool)(c:List T)(h:TkR k c):c.length=2:=by rw[h];rfl
def GY(d:List (Int×Bool))(v:T):Prop:= ∃r,iJ v d.length r∧iK TkR d r
theorem vV{d:List (Int×Bool)}{v:T}(h:GY d v)(i:Nat)(hi:i<d.length): ∃r,∀kk,ng v (.i kk (i:Int)) 2=some (.vp (.i .i64 d[i].1:: .b d[i].2::r)):=by
 obtain⟨F,D,E⟩:=h
 obtain⟨c,r,e,h⟩:=qu (k:=2) TkR.len D E i hi
 simp_all[TkR]
def yz(c:Ct)(r:List Fl)(i j:Int):Bool:=match r[i.toNat]?,r[j.toNat]? with
 |some f,some g=>Po c f g
 |_,_=>false
theorem MH(c:Ct)(r:List Fl){i j:Nat}(hi:i<r.length)(D:j<r.length):yz c r i j=Po c r[i] r[j]:=by
 grind [yz]
theorem Js{n:Nat}{i:Int}(h:yy n i=true): ∃k:Nat,k<n∧i=k:=by
 unfold yy at h
 rw[decide_eq_true_eq]at h
 exact⟨i.toNat,by omega,by omega⟩
def HW(c:Ct)(D:List Fl):List (Int×Bool)→Bool
 |k::l::r=>yz c D k.1 l.1&&HW c D (l::r)
 |_=>true
def se(c:Ct)(r:List Fl)(d:List (Int×Bool)):Int:=
 if(d.length:Int)<1 then 5 else if(6:Int)<d.length then 5 else if d.all (fun k=>yy r.length k.1)=true then(if HW c r d=true then 0 else 14)else 6
theorem alU(c:Ct)(r:List Fl){d:List (Int×Bool)}{k:Nat}(D:k+1<d.length):HW c r (d.drop k)=(yz c r d[k].1 d[k+1].1&&HW c r (d.drop (k+1))):=by
 grind [List.drop_eq_getElem_cons,HW]
theorem ae6(c:Ct)(r:List Fl){d:List (Int×Bool)}{k:Nat}(D:k+1=d.length):HW c r (d.drop k)=true:=by
 rw[List.drop_eq_getElem_cons (by omega:k<d.length),List.drop_eq_nil_of_le (by omega),HW]
 simp
theorem alV{α:Type}{p:α→Bool}{d:List α}{k:Nat}(r:k<d.length):(d.drop k).all p=(p d[k]&&(d.drop (k+1)).all p):=by
 rw[List.drop_eq_getElem_cons r,List.all_cons]
def stV(c:Ct)(zT aT fT a7 a8 a9 a10 iH iG:T)(vs:List T):T:= .vp (zT::aT::fT::(jb c a7 a8 a9 a10 iH iG++vs))
section
variable(t:Tt)(c:Ct)(zT aT fT a7 a8 a9 a10 iH iG:T)(vs:List T)(hT:ue t zT aT fT)
end
section
variable(t:Tt)(c:Ct)(zT aT fT a7 a8 a9 a10 iH iG:T)(hT:ue t zT aT fT)(hC:uF c a7 a8 a9 a10 iH iG)
theorem MI(hT:ue t zT aT fT)(hC:uF c a7 a8 a9 a10 iH iG){i j:Int}(hi:yy t.fl.length i=true)(I:yy t.fl.length j=true):be pE 38 [.agg [zT,aT,fT],.agg (jb c a7 a8 a9 a10 iH iG),.i .i64 i,.i .i64 j] []=some (.b (yz c t.fl i j),[]):=by
 obtain⟨i,D,rfl⟩:=Js hi
 obtain⟨j,E,rfl⟩:=Js I
 obtain⟨⟨Y,Z,z2⟩,⟨ac,b1,b2⟩,⟨fc,F,H⟩⟩:=hT
 obtain⟨⟨c7,i7,j7⟩,⟨c8,i8,j8⟩,⟨c9,i9,j9⟩,⟨tE,J,yx⟩,⟨vN,K,A8⟩,⟨vZ,N,CV⟩⟩:=hC
 rw[MH c t.fl D E]
 obtain⟨r,O⟩:=uh F H i D
 obtain⟨r',U⟩:=uh F H j E
 rw[iD ajK (by simp[c38])]
 generalize t.fl[i]=f at*
 generalize t.fl[j]=g at*
 unfold jb Po
 simp only[qB,seval,c38,O,U]
 by_cases V:f.to=g.fr <;> by_cases W:c.cn≤wr .i64 (g.dp-f.ar) <;> by_cases X:wr .i64 (g.dp-f.ar)≤c.st <;> simp[V,W,X]
theorem aCc(d:List (Int×Bool))(I:T)(J:GY d I)(hlen:d.length≤1000)(O:List T)(U:iJ fT t.fl.length O)(r:Bool)(D:r=d.all fun k=>yy t.fl.length k.1)(o:Out)(K:o=if r=true then .ext 0 else .ret)(fr:Fr)(lh:iL iy)(sh:List iy)
  (E:an fr 2=I) (F:an fr 3= .ptr .L 3 1 0) (H:an fr 7= .i .i64 0) (V:a6 lh 3=⟨1,.cells [zT,aT,fT] 0 true⟩):
  qG 61 sM fr lh sh o∧((r=false→an (pb pE 61 sM fr lh sh) 6= .i .i64 6)∧nh pE 61 sM fr lh sh=lh∧nB pE 61 sM fr lh sh=sh):=by
 refine ll (fun k st=> ∃(fr:Fr),st=⟨fr,lh,sh⟩∧r=((d.drop k).all fun k=>yy t.fl.length k.1)∧an fr 2=I∧an fr 3= .ptr .L 3 1 0∧an fr 7= .i .i64 (k:Int)) (fun W X Y=>(r=false→an W 6= .i .i64 6)∧X=lh∧Y=sh) o d.length ?_ ?_ fr lh sh ⟨fr,rfl,D,E,F,H⟩
 ·rintro k _ N ⟨fr,rfl,D,E,F,H⟩
  have Z:(k:Int)<d.length:=by omega
  have hw:=iX (k:=k) (by omega)
  obtain⟨rr,iW⟩:=vV J k N
  rw[alV N]at D
  unfold yy at D
  generalize d[k]=y at*
  simp only[qB,seval,sM,E,F,H,V,J.choose_spec.1.lenI,U.lenI,Z,hw,iW]
  repeat' (refine vv (fun _=> ?_) (fun _=> ?_))
  all_goals first
   |(rw[decide_eq_false (by omega),Bool.false_and]at D
     exact yS ⟨by rw[K,D];rfl,fun _=>(by simp only[qA,seval]),rfl,rfl⟩)
   |(rw[decide_eq_true (by omega),Bool.true_and]at D
     exact kA ⟨_,rfl,D,by simp only[qA,seval,E],by simp only[qA,seval,F],by simp only[qA,seval]⟩)
 ·rintro _ ⟨fr,rfl,D,E,F,H⟩
  rw[List.drop_length]at D
  simp only[qA,seval,sM,E,H,J.choose_spec.1.lenI,Int.lt_irrefl]
  exact mf ⟨by rw[K,D];rfl,fun h=>(by rw[D]at h;cases h),rfl,rfl⟩
theorem aCd(hT:ue t zT aT fT)(hC:uF c a7 a8 a9 a10 iH iG)(d:List (Int×Bool))(K:T)(J:GY d K)(h1:1≤d.length)(hlen:d.length≤1000)(Z: ∀k∈d,yy t.fl.length k.1=true)(r:Bool)(D:r=HW c t.fl d)(o:Out)(ho:o=if r=true then .ext 2 else .ret)(fr:Fr)(lh:iL iy)(sh:List iy)
  (E:an fr 2=K) (F:an fr 3= .ptr .L 3 1 0) (H:an fr 4= .ptr .L 4 1 0) (I:an fr 8= .i .i64 1) (o3:a6 lh 3=⟨1,.cells [zT,aT,fT] 0 true⟩) (o4:a6 lh 4=⟨1,.cells (jb c a7 a8 a9 a10 iH iG) 0 true⟩):
  qG 61 xq fr lh sh o∧((r=false→an (pb pE 61 xq fr lh sh) 6= .i .i64 14)∧nB pE 61 xq fr lh sh=sh):=by
 have N:=hT
 have O:=hC
 obtain⟨⟨zc,z1,z2⟩,⟨ac,b1,b2⟩,⟨fc,f1,f2⟩⟩:=N
 obtain⟨⟨c7,i7,j7⟩,⟨c8,i8,j8⟩,⟨c9,i9,j9⟩,⟨tE,U,yx⟩,⟨vN,V,A8⟩,⟨vZ,W,CV⟩⟩:=O
 refine ll (fun k st=> ∃(fr:Fr),st=⟨fr,lh,sh⟩∧r=HW c t.fl (d.drop k)∧an fr 2=K∧an fr 3= .ptr .L 3 1 0∧an fr 4= .ptr .L 4 1 0∧an fr 8= .i .i64 ((k+1:Nat):Int)) (fun jB je jk=>(r=false→an jB 6= .i .i64 14)∧jk=sh) o (d.length-1) ?_ ?_ fr lh sh ⟨fr,rfl,D,E,F,H,I⟩
 ·rintro k _ hk ⟨fr,rfl,D,E,F,H,I⟩
  have X:((k+1:Nat):Int)<d.length:=by omega
  have hw:=iX (k:=k+1) (by omega)
  have Jt:wr .i64 (((k+1:Nat):Int)-1)=(k:Int):=by rw[jE (by omega)];omega
  obtain⟨rr,iW⟩:=vV J k (by omega)
  obtain⟨r2,N7⟩:=vV J (k+1) (by omega)
  rw[alU c t.fl (by omega:k+1<d.length)]at D
  have Y:=MI t c zT aT fT a7 a8 a9 a10 iH iG hT hC (Z _ (List.getElem_mem (by omega:k<d.length))) (Z _ (List.getElem_mem (by omega:k+1<d.length)))
  unfold jb at Y o4
  generalize d[k]=x at*
  generalize d[k+1]=y at*
  cases hv:yz c t.fl x.1 y.1 <;> rw[hv]at Y D <;> simp only[Bool.true_and,Bool.false_and]at D
  all_goals simp only[qA,seval,jw,iN,xq,E,F,H,I,o3,o4,J.choose_spec.1.lenI,X,hw,Jt,iW,N7,Y,ajL,aAe,z1.froz1,b1.froz1,f1.froz1,i7.froz1,i8.froz1,i9.froz1,U.froz1,V.froz1,W.froz1]
  all_goals first
   |exact yS ⟨by rw[ho,D];rfl,fun _=>(by simp only[qA,seval]),rfl⟩
   |exact kA ⟨_,rfl,D,by simp only[qA,seval,E],by simp only[qA,seval,F],by simp only[qA,seval,H],by simp only[qA,seval]⟩
 ·rintro _ ⟨fr,rfl,D,E,F,H,I⟩
  rw[ae6 c t.fl (by omega)]at D
  have X: ¬((d.length-1+1:Nat):Int)<d.length:=by omega
  simp only[qA,seval,xq,E,I,J.choose_spec.1.lenI,X]
  exact mf ⟨by rw[ho,D];rfl,fun h=>(by rw[D]at h;cases h),rfl⟩
theorem ae8(hT:ue t zT aT fT)(hC:uF c a7 a8 a9 a10 iH iG)(d:List (Int×Bool))(D:T)(E:GY d D)(hlen:d.length≤1000):be pE 169 [.agg [zT,aT,fT],.agg (jb c a7 a8 a9 a10 iH iG),D] []=some (.i .i64 (se c t.fl d),[]):=by
 have ZP:=E.choose_spec.1.lenI
 have F:=hT
 have H:=hC
 obtain⟨⟨zc,z1,z2⟩,⟨ac,b1,b2⟩,⟨O,U,f2⟩⟩:=F
 obtain⟨⟨c7,i7,j7⟩,⟨c8,i8,j8⟩,⟨c9,i9,j9⟩,⟨tE,V,yx⟩,⟨vN,W,A8⟩,⟨vZ,X,CV⟩⟩:=H
 have r:=fun fr lh sh I J Y K=>aCc t zT aT fT d D E hlen O U _ rfl _ rfl fr lh sh I J Y K
 rw[iD ahC (by simp[Oh])]
 unfold se
 cases N:d.all fun k=>yy t.fl.length k.1 <;> rw[N]at r
 ·unfold jb
  simp only[qB,seval,Oh,r,ZP,itI]
 ·by_cases Z:1≤d.length
  ·have TZ:=fun fr lh sh I J h4 h8 K o4=>aCd t c zT aT fT a7 a8 a9 a10 iH iG hT hC d D E Z hlen (List.all_eq_true.1 N) _ rfl _ rfl fr lh sh I J h4 h8 K o4
   unfold jb at TZ ⊢
   cases hc:HW c t.fl d <;> rw[hc]at TZ
   all_goals simp only[qB,seval,Oh,SF,TZ,r,ZP,itI]
  ·have yo:(d.length:Int)<1:=by omega
   unfold jb
   simp only[qB,seval,Oh,ZP,yo]
end
section
variable(c:Ct)(a7 a8 a9 a10 iH iG:T)(hT:uF c a7 a8 a9 a10 iH iG)(FM:qY c=false∨th c=false)
include hT FM
theorem alX:be pE 52 [.agg (jb c a7 a8 a9 a10 iH iG)] []=some (.i .i64 (oQ c),[]):=by
 obtain⟨⟨J,F,K⟩,⟨N,H,O⟩,⟨U,I,V⟩,⟨W,r,X⟩,⟨Y,D,A8⟩,⟨Z,E,CV⟩⟩:=hT
 unfold jb
 rw[iD ajO (by simp[c52])]
 unfold oQ
 unfold qY th at FM ⊢
 have w:=fun n lo hi=>j3 (AL n lo hi)
 simp(maxDischargeDepth:=6) only[qB,seval,c52,F.lenI,H.lenI,I.lenI,r.lenI,D.lenI,E.lenI,w,WL]
 clear w
 grind (splits:=40)
theorem alY:be pE 65 [.agg (jb c a7 a8 a9 a10 iH iG)] []=some (.i .i64 (oQ c),[]):=by
 obtain⟨⟨J,F,K⟩,⟨N,H,O⟩,⟨U,I,V⟩,⟨W,r,X⟩,⟨Y,D,A8⟩,⟨Z,E,CV⟩⟩:=hT
 unfold jb
 rw[iD ajV (by simp[c65])]
 unfold oQ
 unfold qY th at FM ⊢
 have w:=fun n lo hi=>j3 (ti n lo hi)
 simp(maxDischargeDepth:=6) only[qB,seval,c65,F.lenI,H.lenI,I.lenI,r.lenI,D.lenI,E.lenI,w,Hm]
 clear w
 grind (splits:=40)
theorem AM:oQ c≠0:=by
 have _:=hT
 unfold oQ
 by_cases h:qY c=false
 ·rw[if_pos h];decide
 ·rw[if_neg h,if_pos (FM.resolve_left h)];decide
theorem FN:nL c=oQ c:=by
 unfold nL;rw[if_pos (AM c a7 a8 a9 a10 iH iG hT FM)]
theorem aiN: ∃s,be pE 31 [.agg (jb c a7 a8 a9 a10 iH iG)] []=some (.i .i64 (nL c),s):=by
 have U8:=alX c a7 a8 a9 a10 iH iG hT FM
 have F:=AM c a7 a8 a9 a10 iH iG hT FM
 rw[FN c a7 a8 a9 a10 iH iG hT FM]
 obtain⟨⟨K,H,N⟩,⟨O,I,U⟩,⟨V,J,W⟩,⟨X,r,Y⟩,⟨Z,D,A8⟩,⟨vZ,E,CV⟩⟩:=hT
 unfold jb at U8 ⊢
 rw[iD ajF (by simp[c31])]
 generalize oQ c=e at*
 simp only[qA,seval,c31,H.froz1,I.froz1,J.froz1,r.froz1,D.froz1,E.froz1,U8,arE,F]
 exact⟨_,rfl⟩
theorem Q9:be pE 37 [.agg (jb c a7 a8 a9 a10 iH iG)] []=some (.i .i64 (nL c),[]):=by
 have U8:=alY c a7 a8 a9 a10 iH iG hT FM
 have F:=AM c a7 a8 a9 a10 iH iG hT FM
 rw[FN c a7 a8 a9 a10 iH iG hT FM]
 obtain⟨⟨K,H,N⟩,⟨O,I,U⟩,⟨V,J,W⟩,⟨X,r,Y⟩,⟨Z,D,A8⟩,⟨vZ,E,CV⟩⟩:=hT
 unfold jb at U8 ⊢
 rw[iD ajJ (by simp[NU])]
 generalize oQ c=e at*
 simp only[qA,seval,NU,H.froz1,I.froz1,J.froz1,r.froz1,D.froz1,E.froz1,U8,arQ,F]
end
structure U9 (c:Ct):Prop where
 n7:ZQ c.cs
 n8: ∀u∈c.ru,N8 u.x
 n9: ∀u∈c.co,N8 u.x
 n10: ∀x∈c.cr,N8 x
theorem U9.sm{c:Ct}(h:U9 c)(hs:th c=true):AJ c:=by
 unfold th at hs
 simp only[Bool.and_eq_true,decide_eq_true_eq]at hs
 obtain⟨r,D,E,F,H,I⟩:=hs
 exact⟨⟨h.n7,lK (by omega)⟩,⟨h.n8,lK (by omega)⟩,⟨h.n9,lK (by omega)⟩,⟨h.n10,lK (by omega)⟩,lK (by omega),lK (by omega)⟩
def mi(t:Tt)(c:Ct):Int:=if uf t≠0 then uf t else nL c
def flG(l:List Fl)(i:Int):Fl:=(l[i.toNat]?).getD ⟨[],[],[],0,0,[],0,0,0⟩
theorem alZ{l:List Fl}{i:Nat}(h:i<l.length):flG l i=l[i]:=by
 unfold flG;rw[Int.toNat_natCast,List.getElem?_eq_getElem h];rfl
theorem B3(c:Ct)(zT aT fT a7 a8 a9 a10 iH iG:T)(vs:List T):froz (stV c zT aT fT a7 a8 a9 a10 iH iG vs)=true:=nr rfl
section
variable(t:Tt)(c:Ct)(zT aT fT a7 a8 a9 a10 iH iG:T)(hT:ue t zT aT fT)(hC:uF c a7 a8 a9 a10 iH iG)(hN:U9 c)
theorem DD(hT:ue t zT aT fT)(hC:uF c a7 a8 a9 a10 iH iG):(froz1 zT=true∧froz1 aT=true∧froz1 fT=true∧froz1 a7=true∧froz1 a8=true∧froz1 a9=true∧froz1 a10=true∧froz1 iH=true∧froz1 iG=true)∧cellsOf zT= [zT]∧cellsOf aT= [aT]∧cellsOf fT= [fT]∧cellsOf a7= [a7]∧cellsOf a8= [a8]∧cellsOf a9= [a9]∧cellsOf a10= [a10]∧cellsOf iH= [iH]∧cellsOf iG= [iG]:=by
 obtain⟨⟨_,F,_⟩,⟨_,H,_⟩,⟨_,I,_⟩⟩:=hT
 obtain⟨⟨_,J,_⟩,⟨_,K,_⟩,⟨_,N,_⟩,⟨_,r,_⟩,⟨_,D,_⟩,⟨_,E,_⟩⟩:=hC
 exact⟨⟨F.froz1,H.froz1,I.froz1,J.froz1,K.froz1,N.froz1,r.froz1,D.froz1,E.froz1⟩,F.cells,H.cells,I.cells,J.cells,K.cells,N.cells,r.cells,D.cells,E.cells⟩
include hC hN
theorem avC: ∃s,be pE 31 [.agg (jb c a7 a8 a9 a10 iH iG)] []=some (.i .i64 (nL c),s):=by
 by_cases r:qY c=false
 ·exact aiN c a7 a8 a9 a10 iH iG hC (.inl r)
 ·by_cases hs:th c=false
  ·exact aiN c a7 a8 a9 a10 iH iG hC (.inr hs)
  ·exact Q5 c a7 a8 a9 a10 iH iG hC (hN.sm (by simpa using hs))
theorem ae9:be pE 37 [.agg (jb c a7 a8 a9 a10 iH iG)] []=some (.i .i64 (nL c),[]):=by
 by_cases r:qY c=false
 ·exact Q9 c a7 a8 a9 a10 iH iG hC (.inl r)
 ·by_cases hs:th c=false
  ·exact Q9 c a7 a8 a9 a10 iH iG hC (.inr hs)
  ·exact T6 c a7 a8 a9 a10 iH iG hC (hN.sm (by simpa using hs))
omit hN in
theorem HX(h:nL c=0):th c=true:=by
 cases hs:th c with
 |true=>rfl
 |false=>
  exfalso
  rw[FN c a7 a8 a9 a10 iH iG hC (.inr hs)]at h
  exact AM c a7 a8 a9 a10 iH iG hC (.inr hs) h
include hT
theorem ZR(h:mi t c=0): ∃s vs,be pE 17 [.agg [zT,aT,fT],.agg (jb c a7 a8 a9 a10 iH iG)] []=some (.tup [stV c zT aT fT a7 a8 a9 a10 iH iG vs,.i .i64 0],s)∧ME t c vs:=by
 unfold mi at h
 by_cases r:uf t=0
 ·rw[if_neg (by simp[r])]at h
  obtain⟨s,vs,D,_,_,E⟩:=alQ t c zT aT fT a7 a8 a9 a10 iH iG hT hC (hN.sm (HX c a7 a8 a9 a10 iH iG hC h)) r h
  exact⟨s,vs,D,E⟩
 ·rw[if_pos r]at h;exact absurd h r
theorem ZS(h:mi t c≠0): ∃s,be pE 17 [.agg [zT,aT,fT],.agg (jb c a7 a8 a9 a10 iH iG)] []=some (.tup [.nilptr,.i .i64 (mi t c)],s):=by
 unfold mi at h ⊢
 by_cases E:uf t=0
 ·rw[if_neg (by simp[E])]at h ⊢
  have r:=Pe t zT aT fT hT
  obtain⟨W,D⟩:=avC c a7 a8 a9 a10 iH iG hC hN
  rw[E]at r
  obtain⟨⟨X,J,Y⟩,⟨ac,K,Z⟩,⟨fc,N,f2⟩⟩:=hT
  obtain⟨⟨_,O,_⟩,⟨_,U,_⟩,⟨_,V,_⟩,⟨_,F,_⟩,⟨_,H,_⟩,⟨_,I,_⟩⟩:=hC
  rw[iD acu (by simp[c17])]
  unfold jb at D ⊢
  simp only[qA,seval,c17,r,D,h,ajE,arf,J.froz1,K.froz1,N.froz1,O.froz1,U.froz1,V.froz1,F.froz1,H.froz1,I.froz1]
  exact⟨_,rfl⟩
 ·rw[if_pos E]
  exact ae5 t c zT aT fT a7 a8 a9 a10 iH iG hT hC E
theorem Ju(H: ∀f∈t.fl,f.nu.length≤mh):be pE 19 [.agg [zT,aT,fT],.agg (jb c a7 a8 a9 a10 iH iG)] []=some (.i .i64 (mi t c),[]):=by
 have I:=al0 t zT aT fT hT H
 have F:=ae9 c a7 a8 a9 a10 iH iG hC hN
 obtain⟨⟨X,J,Y⟩,⟨ac,K,Z⟩,⟨fc,N,f2⟩⟩:=hT
 obtain⟨⟨_,O,_⟩,⟨_,U,_⟩,⟨_,V,_⟩,⟨_,r,_⟩,⟨_,D,_⟩,⟨_,E,_⟩⟩:=hC
 unfold mi
 rw[iD aq5 (by simp[c19])]
 unfold jb at F ⊢
 by_cases W:uf t=0
 all_goals simp only[qA,seval,c19,I,F,W,aAc,aAd,J.froz1,K.froz1,N.froz1,O.froz1,U.froz1,V.froz1,r.froz1,D.froz1,E.froz1]
theorem Pp(h:mi t c=0):uf t=0∧nL c=0:=by
 have _:=hC;have _:=hN;have _:=hT
 unfold mi at h
 by_cases r:uf t=0
 ·rw[if_neg (by simp[r])]at h;exact⟨r,h⟩
 ·rw[if_pos r]at h;exact absurd h r
theorem afa(H: ∀f∈t.fl,f.nu.length≤mh)(d:List (Int×Bool))(r:T)(F:GY d r)(hlen:d.length≤1000):be pE 146 [.agg [zT,aT,fT],.agg (jb c a7 a8 a9 a10 iH iG),r] []=some (.i .i64 (if mi t c≠0 then mi t c else se c t.fl d),[]):=by
 have hz:=DD t c zT aT fT a7 a8 a9 a10 iH iG hT hC
 have D:=Ju t c zT aT fT a7 a8 a9 a10 iH iG hT hC hN H
 have I:=ae8 t c zT aT fT a7 a8 a9 a10 iH iG hT hC d r F hlen
 have E:=F.choose_spec.1.froz
 rw[iD ahd (by simp[Wb])]
 unfold jb at*
 by_cases h:mi t c=0
 all_goals simp only[qA,seval,Wb,D,Oq,I,asZ,h,hz,E]
end
theorem ZT(a:Int):a.tdiv 1440=if a.tmod 1440<0 then a/1440+1 else a/1440:=by
 grind
theorem al1(a:Int):a.tmod 1440=if a.tmod 1440<0 then a%1440-1440 else a%1440:=by
 grind
def CX(a:Int):Prop:= -100000000≤a∧a≤100000000
theorem B4(a:Int)(F:CX a):be pE 168 [.i .i64 a] []=some (.tup [.i .i64 (a/1440),.i .i64 (a%1440)],[]):=by
 obtain⟨J,K⟩:=F
 have D:=ZT a
 have r:=al1 a
 rw[iD ahA (by simp[SE])]
 by_cases h:a.tmod 1440<0
 ·rw[if_pos h]at D r
  rw[r]at h
  have E:wr .i64 (a/1440+1)=a/1440+1:=jE (by omega)
  have H:wr .i64 (a/1440+1-1)=a/1440:=by rw[jE (by omega)];omega
  have I:wr .i64 (a%1440-1440+1440)=a%1440:=by rw[jE (by omega)];omega
  simp only[qA,seval,SE,D,r,E,h,H,I]
 ·rw[if_neg h]at D r
  rw[r]at h
  have E:wr .i64 (a/1440)=a/1440:=jE (by omega)
  simp only[qA,seval,SE,D,r,E,h]
theorem T7(a:Int)(E:CX a):be pE 201 [.i .i64 a,.i .i64 1440] []=some (.i .i64 (a/1440),[]):=by
 obtain⟨H,I⟩:=E
 have r:=ZT a
 rw[iD ah7 (by simp[SO])]
 by_cases h:a.tmod 1440<0
 ·have J:=h
  rw[if_pos h]at r
  have D:wr .i64 (a/1440+1)=a/1440+1:=jE (by omega)
  have F:wr .i64 (a/1440+1-1)=a/1440:=by rw[jE (by omega)];omega
  simp only[qA,seval,SO,r,D,h,F]
 ·rw[if_neg h]at r
  have D:wr .i64 (a/1440)=a/1440:=jE (by omega)
  simp only[qA,seval,SO,r,D,h]
theorem B5(a:Int)(r:CX a):be pE 190 [.i .i64 a] []=some (.tup [.i .i64 (a/1440),.i .i64 (a%1440)],[]):=by
 have D:=T7 a r
 obtain⟨H,I⟩:=r
 have E:wr .i64 (1440*(a/1440))=1440*(a/1440):=jE (by omega)
 have F:wr .i64 (a-1440*(a/1440))=a%1440:=by rw[jE (by omega)];omega
 rw[iD ah1 (by simp[Ww])]
 simp only[qA,seval,Ww,D,ati,E,F]
def vE(o:Int):List (Int×Int)→Int→Int
 | [],_=>o
 |s::r,t=>if s.1≤t then vE s.2 r t else o
def Df(o:Int):List (Int×Int)→Int→Int
 | [],_=>o
 |s::r,t=>Df (if s.1≤t then s.2 else o) r t
theorem FO{p:Option Int}{s:Int×Int}{r:List (Int×Int)}(h:GZ p (s::r)=0):ui s.1=true∧wR s.2=true∧(∀q,p=some q→q<s.1)∧GZ (some s.1) r=0:=by
 unfold GZ at h
 grind
theorem HY: ∀(l:List (Int×Int)) (p o t:Int),GZ (some p) l=0→t<p→Df o l t=o
 | [],p,o,t,h,D=>rfl
 |s::r,p,o,t,h,D=>by
  obtain⟨_,_,E,F⟩:=FO h
  have:=E p rfl
  rw[Df,if_neg (by omega)]
  exact HY r s.1 o t F (by omega)
theorem ZU: ∀(l:List (Int×Int)) (p:Option Int) (o t:Int),GZ p l=0→Df o l t=vE o l t
 | [],p,o,t,h=>rfl
 |s::r,p,o,t,h=>by
  obtain⟨_,_,_,D⟩:=FO h
  rw[Df,vE]
  by_cases hs:s.1≤t
  ·rw[if_pos hs,if_pos hs];exact ZU r _ _ _ D
  ·grind [HY]
theorem DE: ∀{l:List (Int×Int)} {p:Option Int},GZ p l=0→ ∀s∈l,ui s.1=true∧wR s.2=true
 |a::r,p,h,s,hs=>by
  obtain⟨E,F,_,D⟩:=FO h
  rcases List.mem_cons.1 hs with rfl|hs
  ·grind
  ·exact DE D s hs
theorem ZV: ∀{l:List (Int×Int)} {o t:Int},wR o=true→(∀s∈l,wR s.2=true)→wR (vE o l t)=true
 | [],o,t,h,_=>h
 |s::r,o,t,h,D=>by
  rw[vE]
  split
  ·exact ZV (D s (by simp)) fun x E=>D x (by simp[E])
  ·exact h
def Zo.off(z:Zo)(t:Int):Int:=vE z.o z.sh t
theorem oS{z:Zo}(h:oB z=0):wR z.o=true∧z.sh.length≤16∧GZ none z.sh=0:=by
 grind [oB]
theorem Zo.off_bd{z:Zo}(h:oB z=0)(t:Int): -840≤z.off t∧z.off t≤840:=by
 obtain⟨r,_,D⟩:=oS h
 have:=ZV (t:=t) r fun s hs=>(DE D s hs).2
 grind [wR,Zo.off]
def sF(z:Zo)(a:T):List T:= [.s z.nm,.i .i64 z.o,a]
def ZoT(z:Zo)(a:T):Prop:= ∃r,iJ a z.sh.length r∧iK T8 z.sh r
section
variable(z:Zo)(a:T)(hz:ZoT z a)(hlen:z.sh.length≤16)
include hz hlen
theorem aCf(t:Int)(fr:Fr)(lh:iL iy)(sh:List iy)(H:an fr 1= .i .i64 t)(I:an fr 5= .i .i64 z.o)(E:an fr 11=a)(D:an fr 12= .i .i64 (z.sh.length:Int))(J:an fr 13= .i .i64 0):
  qG 25 xp fr lh sh (.ext 0)∧
  (an (pb pE 25 xp fr lh sh) 5= .i .i64 (vE z.o z.sh t)∧nB pE 25 xp fr lh sh=sh):=by
 obtain⟨Z,N,O⟩:=hz
 refine ll (fun k st=> ∃(fr:Fr) (lh:iL iy) (o:Int),st=⟨fr,lh,sh⟩∧an fr 1= .i .i64 t∧an fr 5= .i .i64 o∧an fr 11=a∧an fr 12= .i .i64 (z.sh.length:Int)∧an fr 13= .i .i64 (k:Int)∧vE o (z.sh.drop k) t=vE z.o z.sh t)
  (fun U je V=>an U 5= .i .i64 (vE z.o z.sh t)∧V=sh) _ z.sh.length ?_ ?_ fr lh sh ⟨fr,lh,z.o,rfl,H,I,E,D,J,rfl⟩
 ·rintro k _ K ⟨fr,lh,o,rfl,H,I,E,D,J,F⟩
  have W:(k:Int)<z.sh.length:=by omega
  have X:=iX (k:=k) (by omega)
  obtain⟨rr,Y⟩:=FQ N O K
  rw[List.drop_eq_getElem_cons K,vE]at F
  generalize z.sh[k]=s at*
  generalize vE z.o z.sh t=r at*
  simp only[qB,seval,xp,H,E,D,J,W,Y,X]
  refine vv (fun h=> ?_) (fun h=> ?_)
  ·rw[if_neg (by omega)]at F
   exact mf ⟨rfl,by simp only[qA,seval,I,F],rfl⟩
  ·rw[if_pos (by omega)]at F
   exact kA ⟨_,_,s.2,rfl,by simp only[qA,seval,H],by simp only[qA,seval],by simp only[qA,seval,E],by simp only[qA,seval,D],by simp only[qA,seval],F⟩
 ·rintro _ ⟨fr,lh,o,rfl,H,I,E,D,J,F⟩
  rw[List.drop_length,vE]at F
  simp only[qA,seval,xp,D,J,Int.lt_irrefl]
  exact mf ⟨rfl,by simp only[qA,seval,I,F],rfl⟩
theorem T9(t:Int):be pE 166 [.agg (sF z a),.i .i64 t] []=some (.i .i64 (z.off t),[]):=by
 have E:=fun fr lh sh F H r D I=>aCf z a hz hlen t fr lh sh F H r D I
 obtain⟨K,J,N⟩:=hz
 unfold Zo.off sF
 rw[iD ahy (by simp[Wk])]
 simp only[qA,seval,Wk,J.lenI,E]
theorem aCg(t:Int)(fr:Fr)(lh:iL iy)(sh:List iy)(F:an fr 1= .i .i64 t)(E:an fr 2= .ptr .L 2 1 0)(H:an fr 5= .i .i64 z.o)(I:an fr 6= .i .i64 0)(J:a6 lh 2=⟨1,.cells (sF z a) 0 true⟩):
  qG 31 xt fr lh sh (.ext 0)∧
  (an (pb pE 31 xt fr lh sh) 5= .i .i64 (Df z.o z.sh t)∧nB pE 31 xt fr lh sh=sh):=by
 obtain⟨Z,K,O⟩:=hz
 unfold sF at J
 refine ll (fun k st=> ∃(fr:Fr) (o:Int),st=⟨fr,lh,sh⟩∧an fr 1= .i .i64 t∧an fr 2= .ptr .L 2 1 0∧an fr 5= .i .i64 o∧an fr 6= .i .i64 (k:Int)∧Df o (z.sh.drop k) t=Df z.o z.sh t)
  (fun U je V=>an U 5= .i .i64 (Df z.o z.sh t)∧V=sh) _ z.sh.length ?_ ?_ fr lh sh ⟨fr,z.o,rfl,F,E,H,I,rfl⟩
 ·rintro k _ N ⟨fr,o,rfl,F,E,H,I,D⟩
  have W:(k:Int)<z.sh.length:=by omega
  have X:=iX (k:=k) (by omega)
  obtain⟨rr,Y⟩:=FQ K O N
  rw[List.drop_eq_getElem_cons N,Df]at D
  generalize z.sh[k]=s at*
  generalize Df z.o z.sh t=r at*
  simp only[qB,seval,xt,F,E,I,J,K.lenI,W,Y,X]
  refine vv (fun h=> ?_) (fun h=> ?_)
  ·rw[if_pos h]at D
   exact kA ⟨_,s.2,rfl,by simp only[qA,seval,F],by simp only[qA,seval,E],by simp only[qA,seval],by simp only[qA,seval],D⟩
  ·rw[if_neg h]at D
   exact kA ⟨_,o,rfl,by simp only[qA,seval,F],by simp only[qA,seval,E],by simp only[qA,seval,H],by simp only[qA,seval],D⟩
 ·rintro _ ⟨fr,o,rfl,F,E,H,I,D⟩
  rw[List.drop_length,Df]at D
  simp only[qA,seval,xt,E,I,J,K.lenI,Int.lt_irrefl]
  exact mf ⟨rfl,by simp only[qA,seval,H,D],rfl⟩
theorem vF(hv:oB z=0)(t:Int):be pE 188 [.agg (sF z a),.i .i64 t] []=some (.i .i64 (z.off t),[]):=by
 have r:=fun fr lh sh D E F H I=>aCg z a hz hlen t fr lh sh D E F H I
 obtain⟨J,K,N⟩:=hz
 rw[ZU _ _ _ _ (oS hv).2.2]at r
 unfold Zo.off
 unfold sF at r ⊢
 rw[iD Xj (by simp[Wu])]
 simp only[qA,seval,Wu,r]
end
section
variable(z:Zo)(a:T)(hz:ZoT z a)(hv:oB z=0)
include hz hv
theorem yZ(t:Int)(H:ui t=true):be pE 142 [.agg (sF z a),.i .i64 t] []=some (.tup [.i .i64 (z.off t),.i .i64 0],[]):=by
 have r:=T9 z a hz (oS hv).2.1 t
 obtain⟨I,D,J⟩:=hz
 have E:=FR z a I D J
 have F:=Ra t
 rw[hv]at E
 rw[H]at F
 unfold sF at r ⊢
 rw[iD ag9 (by simp[V8])]
 simp only[qA,seval,V8,r,E,F,D.froz1,asW,acC,aj8]
theorem Ua(t:Int)(H:ui t=true):be pE 210 [.agg (sF z a),.i .i64 t] []=some (.tup [.i .i64 (z.off t),.i .i64 0],[]):=by
 have r:=vF z a hz (oS hv).2.1 hv t
 obtain⟨I,D,J⟩:=hz
 have E:=FT z a I D J
 have F:=Rb t
 rw[hv]at E
 rw[H]at F
 unfold sF at r ⊢
 rw[iD aic (by simp[WD])]
 simp only[qA,seval,WD,r,E,F,D.froz1,LD,ajR,aka]
theorem Pq(t:Int)(r:ui t=true):wr .i64 (t+z.off t)=t+z.off t∧CX (t+z.off t):=by
 have _:=hz
 have D:=Zo.off_bd hv t
 unfold ui at r
 simp only[Bool.and_eq_true,decide_eq_true_eq]at r
 exact⟨jE (by omega),by unfold CX;omega⟩
def Zo.day(z:Zo)(t:Int):Int:=(t+z.off t)/1440
def Zo.clk(z:Zo)(t:Int):Int:=(t+z.off t)%1440
theorem MJ(t:Int)(r:ui t=true):be pE 143 [.agg (sF z a),.i .i64 t] []=some (.tup [.i .i64 (z.day t),.i .i64 (z.clk t),.i .i64 0],[]):=by
 have D:=yZ z a hz hv t r
 obtain⟨w,n⟩:=Pq z a hz hv t r
 have H:=B4 _ n
 obtain⟨I,E,J⟩:=hz
 have F:be pE 167 [.agg (sF z a),.i .i64 t] []=some (.tup [.i .i64 (t+z.off t),.i .i64 0],[]):=by
  unfold sF at D ⊢
  rw[iD ahz (by simp[Wl])]
  simp only[qA,seval,Wl,D,w,E.froz1,W7]
 unfold Zo.day Zo.clk
 generalize t+z.off t=m at*
 unfold sF at F ⊢
 rw[iD aha (by simp[V9])]
 simp only[qA,seval,V9,F,H,E.froz1,asY,ahB]
theorem ZW(t:Int)(r:ui t=true):be pE 200 [.agg (sF z a),.i .i64 t] []=some (.tup [.i .i64 (z.day t),.i .i64 (z.clk t),.i .i64 0],[]):=by
 have D:=Ua z a hz hv t r
 obtain⟨w,n⟩:=Pq z a hz hv t r
 have H:=B5 _ n
 obtain⟨I,E,J⟩:=hz
 have F:be pE 205 [.agg (sF z a),.i .i64 t] []=some (.tup [.i .i64 (t+z.off t),.i .i64 0],[]):=by
  unfold sF at D ⊢
  rw[iD aib (by simp[WC])]
  simp only[qA,seval,WC,D,w,E.froz1,atl]
 unfold Zo.day Zo.clk
 generalize t+z.off t=m at*
 unfold sF at F ⊢
 rw[iD ah6 (by simp[WA])]
 simp only[qA,seval,WA,F,H,E.froz1,atk,Qp]
end
def qL(f:Int→Bool)(a:Int):Nat→Int
 |0=>0
 |n+1=>qL f a n+if f (a+n)=true then 1 else 0
theorem MK(f:Int→Bool)(a:Int)(m:Nat): ∀n,qL f a (m+n)=qL f a m+qL f (a+m) n
 |0=>by simp[qL]
 |n+1=>by
  rw[←Nat.add_assoc,qL,qL,MK f a m n,show a+((m+n:Nat):Int)=a+m+n by omega]
  omega
theorem FU{f g:Int→Bool}{a:Int}: ∀{n:Nat},(∀t,a≤t→t<a+n→f t=g t)→qL f a n=qL g a n
 |0,_=>rfl
 |n+1,h=>by rw[qL,qL,FU fun t r D=>h t r (by omega),h (a+n) (by omega) (by omega)]
theorem DF(f:Int→Bool)(a:Int): ∀n,0≤qL f a n∧qL f a n≤n
 |0=>by simp[qL]
 |n+1=>by have:=DF f a n;rw[qL];split <;> omega
def wS(f:Int→Bool)(a b:Int):Int:=qL f a (b-a).toNat
theorem ZX(f:Int→Bool){a m b:Int}(r:a≤m)(D:m≤b):wS f a b=wS f a m+wS f m b:=by
 unfold wS
 have:=MK f a (m-a).toNat (b-m).toNat
 grind
theorem xJ(f:Int→Bool){a b:Int}(h:b≤a):wS f a b=0:=by
 unfold wS;rw[show(b-a).toNat=0 by omega];rfl
theorem y7{f g:Int→Bool}{a b:Int}(h: ∀t,a≤t→t<b→f t=g t):wS f a b=wS g a b:=by
 grind [wS,FU]
def Pr(c len p q d:Int):Int:=if max (1440*d+c) p<min (1440*d+c+len) q then min (1440*d+c+len) q-max (1440*d+c) p else 0
def wU(c len p q lo:Int):Nat→Int
 |0=>0
 |n+1=>wU c len p q lo n+Pr c len p q (lo+n)
theorem Ub{c len p q d:Int}(r:1≤len)(D:p≤q):Pr c len p (q+1) d=Pr c len p q d+if 1440*d+c≤q∧q<1440*d+c+len then 1 else 0:=by
 grind [Pr]
theorem HZ{c len p q lo:Int}(r:1≤len)(E:len<1440)(D:p≤q): ∀n:Nat,wU c len p (q+1) lo n=wU c len p q lo n+if lo≤(q-c)/1440∧(q-c)/1440<lo+n∧(q-c)%1440<len then 1 else 0
 |0=>by grind [wU]
 |n+1=>by
  rw[wU,wU,HZ r E D n,Ub r D]
  grind
theorem H0{c len p:Int}(lo:Int): ∀n:Nat,wU c len p p lo n=0
 |0=>rfl
 |n+1=>by
  rw[wU,H0 lo n]
  grind [Pr]
def kF(f t:Int):Int:=(t-f+1440)%1440
theorem ML{m f t:Int}(r:0≤f∧f<1440)(D:0≤t∧t<1440):lA (m%1440) f t=decide ((m-f)%1440<kF f t):=by
 grind [lA,kF]
theorem MM{f t o p:Int}(F:0≤f∧f<1440)(H:0≤t∧t<1440)(D:kF f t≠0)(lo:Int)(n:Nat)(r:lo≤(p+o)/1440-1):
  ∀k:Nat,(p+k-1+o)/1440<lo+n→wU (f-o) (kF f t) p (p+k) lo n=qL (fun x=>lA ((x+o)%1440) f t) p k
 |0,_=>by rw[show p+((0:Nat):Int)=p by omega,H0];rfl
 |k+1,h=>by
  have E:1≤kF f t∧kF f t<1440:=by unfold kF at D ⊢; omega
  have ih:=MM F H D lo n r k (by omega)
  rw[show p+((k+1:Nat):Int)=p+k+1 by omega,HZ E.1 E.2 (by omega),ih,qL]
  grind [ML]
def AN(a b o:Int):List (Int×Int×Int):=if a<b then [(a,b,o)]else []
def pB(S T fr o:Int):List (Int×Int)→List (Int×Int×Int)
 | []=>AN (max fr S) (min 52596000 T) o
 |s::r=>AN (max fr S) (min s.1 T) o++pB S T s.1 s.2 r
def y8(g:Int×Int→Bool)(l:List (Int×Int×Int)):Int:=(l.map fun x=>wS (fun t=>g (t,x.2.2)) x.1 x.2.1).sum
theorem ZY(g:Int×Int→Bool)(a b o:Int):y8 g (AN a b o)=wS (fun t=>g (t,o)) a b:=by
 grind [AN,y8,xJ]
theorem MN(g:Int×Int→Bool)(l r:List (Int×Int×Int)):y8 g (l++r)=y8 g l+y8 g r:=by
 grind [y8]
theorem MO(g:Int×Int→Bool){S T:Int}(hT:T≤52596000): ∀(l:List (Int×Int)) (p:Option Int) (fr o:Int),GZ p l=0→(∀s∈l.head?,fr≤s.1)→y8 g (pB S T fr o l)=wS (fun t=>g (t,vE o l t)) (max fr S) T
 | [],p,fr,o,h,E=>by
   rw[pB,ZY,Int.min_eq_right hT];rfl
 |s::r,p,fr,o,h,E=>by
  obtain⟨_,_,_,F⟩:=FO h
  have hs:=E s rfl
  have K: ∀x∈r.head?,s.1≤x.1:=by
   intro x H
   cases r with
   |nil=>cases H
   |cons y r=>
    cases H
    have:=(FO F).2.2.1 s.1 rfl
    omega
  rw[pB,MN,ZY,MO g hT r _ s.1 s.2 F K]
  have D: ∀t,s.1≤t→vE o (s::r) t=vE s.2 r t:=fun t I=>by rw[vE,if_pos I]
  have early: ∀t,t<s.1→vE o (s::r) t=o:=fun t I=>by rw[vE,if_neg (by omega)]
  by_cases J:max fr S≤s.1∧s.1≤T
  ·rw[ZX (m:=s.1) _ J.1 J.2,show min s.1 T=s.1 by omega,show max s.1 S=s.1 by omega]
   grind [y7]
  ·by_cases O:s.1≤T
   ·rw[xJ (a:=max fr S) (b:=min s.1 T) _ (by omega),show max s.1 S=max fr S by omega,Int.zero_add]
    exact y7 fun t N _=>by rw[D t (by omega)]
   ·rw[xJ (a:=max s.1 S) (b:=T) _ (by omega),show min s.1 T=T by omega,Int.add_zero]
    exact y7 fun t _ N=>by rw[early t (by omega)]
def Zo.bandM(z:Zo)(S T f t:Int):Int:=wS (fun x=>lA (z.clk x) f t) S T
theorem Ps{z:Zo}(hv:oB z=0){S T f t:Int}(D:0≤S)(hT:T≤52596000):y8 (fun x=>lA ((x.1+x.2)%1440) f t) (pB S T 0 z.o z.sh)=z.bandM S T f t:=by
 have r:=(oS hv).2.2
 rw[MO _ hT z.sh none 0 z.o r,show max 0 S=S by omega]
 ·rfl
 ·intro s hs
  have:=(DE r s (List.mem_of_mem_head? hs)).1
  grind [ui]
end Go.Proofs.YtjniffjppoklpaaGreat
