/- Walks of functions of the program and of the reference, and their plain laws, part 17. Conditions: the theorems' own. -/
import Derived.Test.YtblcbheipjeoeaaGreatM16
import Derived.KernelRfl
set_option maxRecDepth 100000
set_option linter.unusedSimpArgs false
set_option linter.unusedVariables false
set_option maxHeartbeats 16000000
namespace Go.Proofs.YtblcbheipjeoeaaGreat
open Go Go.Ev
theorem II{c:Ct}{fl:List Fl}{d:List (Int×Bool)}(h:vz c fl d=0):1≤d.length∧d.length≤6∧(∀k∈d,A0 fl.length k.1=true)∧PH c fl d=true:=by
 unfold vz at h
 split at h
 ·cases h
 split at h
 ·cases h
 split at h
 ·rename_i a
  split at h
  ·rename_i b;exact⟨by omega,by omega,List.all_eq_true.1 a,b⟩
  ·cases h
 ·cases h
def Lf(t:Tt)(c:Ct)(d:List (Int×Bool)):Lg×Int:=if vz c t.fl d≠0 then(TB,vz c t.fl d)else if okS t c d=true then(NR t c d,0)else(TB,15)
def BM(t:Tt)(c:Ct)(d:List (Int×Bool)):Lg×Int:=if nq t c≠0 then(TB,nq t c)else Lf t c d
def LgT(g:Lg)(v:T):Prop:=g8 v g.du.length (y8 g.du)
theorem ac2(t:Tt)(c:Ct)(d:List (Int×Bool)):(NR t c d).du=d:=rfl
section
variable(t:Tt)(c:Ct)(zT aT fT a7 a8 a9 a10 hZ hU:T)(vs:List T)(hT:vq t zT aT fT)(hC:xG c a7 a8 a9 a10 hZ hU)(hN:CtN c)(d:List (Int×Bool))(dT:T)(hd:EA d dT)(hlen:d.length≤1000)
include hT hd hlen
theorem ac3(H:Ix t c vs)(ht:tq t=0)(hc:my c=0): ∃v,gS pE 63 [oh c zT aT fT a7 a8 a9 a10 hZ hU vs,dT] []=some (.tup [.agg (ue (Lf t c d).1 v),.i .i64 (Lf t c d).2],[])∧LgT (Lf t c d).1 v:=by
 have D:=ajs t c zT aT fT a7 a8 a9 a10 hZ hU vs hT d dT hd hlen
 have Fj:=wQ c zT aT fT a7 a8 a9 a10 hZ hU vs
 have r:=hd.sl.froz
 unfold Lf
 rw[gX aow (by simp[c63])]
 by_cases hs:vz c t.fl d=0
 ·obtain⟨h1,N,iI,_⟩:=II hs
  have SP:=ac1 t c zT aT fT a7 a8 a9 a10 hZ hU vs hT H ht hc d dT hd h1 (by omega) iI
  rw[hs]at D
  rw[if_neg (by simp[hs])]
  generalize oh c zT aT fT a7 a8 a9 a10 hZ hU vs=V at*
  cases I:okS t c d <;> rw[I]at SP
  ·refine⟨.nilsl, ?_,.inl ⟨rfl,rfl,rfl⟩⟩
   simp only[Bool.false_eq_true,if_false]at SP ⊢
   unfold ue TB at*
   simp only[qA,seval,c63,D,SP,Fj,r,Ld,ahw,adN]
  ·refine⟨.sl (y8 d) d.length false, ?_,.inr ⟨false,rfl⟩⟩
   simp only[if_true]at SP ⊢
   have C:=AQ d
   have J:(y8 d).length/d.length=2:=by rw[C];exact Nat.mul_div_cancel_left 2 (by omega)
   have K:=Le d
   have GA:2*d.length=(y8 d).length:=by rw[C];omega
   have E:d.length*2≤(y8 d).length:=by omega
   have F:List.take (d.length*2) (y8 d)=y8 d:=List.take_of_length_le (by omega)
   unfold ue at*
   generalize NR t c d=g at*
   obtain⟨O,U,W,X,Y,Z,x6⟩:=g
   simp only at SP ⊢
   simp only[qA,seval,c63,D,SP,Fj,r,NQ,J,K,GA,E,F,ahw,adN]
 ·rw[if_pos hs]
  refine⟨.nilsl, ?_,.inl ⟨rfl,rfl,rfl⟩⟩
  generalize vz c t.fl d=e at*
  generalize oh c zT aT fT a7 a8 a9 a10 hZ hU vs=V at*
  unfold ue TB
  simp only[qA,seval,c63,D,hs,Fj,r,ahw]
include hC hN
theorem ac4: ∃v s,gS pE 26 [.agg [zT,aT,fT],.agg (iS c a7 a8 a9 a10 hZ hU),dT] []=some (.tup [.agg (ue (BM t c d).1 v),.i .i64 (BM t c d).2],s)∧LgT (BM t c d).1 v:=by
 have D:=Yn t c zT aT fT a7 a8 a9 a10 hZ hU hT hC
 have r:=hd.sl.froz
 unfold BM
 by_cases h:nq t c=0
 ·obtain⟨F,vs,C,E⟩:=asg t c zT aT fT a7 a8 a9 a10 hZ hU hT hC hN h
  obtain⟨ht,hc⟩:=Nz t c zT aT fT a7 a8 a9 a10 hZ hU hT hC hN h
  obtain⟨v,hl,hv⟩:=ac3 t c zT aT fT a7 a8 a9 a10 hZ hU vs hT d dT hd hlen E ht hc
  have Fj:=wQ c zT aT fT a7 a8 a9 a10 hZ hU vs
  have TC:=hv.froz1
  rw[if_neg (by simp[h])]
  refine⟨v,[], ?_,hv⟩
  generalize oh c zT aT fT a7 a8 a9 a10 hZ hU vs=V at*
  generalize Lf t c d=q at*
  obtain⟨⟨H,I,J,K,N,O,U⟩,e⟩:=q
  rw[gX aht (by simp[c26])]
  unfold ue iS at*
  simp only[qA,seval,c26,C,hl,TC,Fj,D,r,aoq,avR]
 ·obtain⟨s,C⟩:=ash t c zT aT fT a7 a8 a9 a10 hZ hU hT hC hN h
  rw[if_pos h]
  refine⟨.nilsl,[], ?_,.inl ⟨rfl,rfl,rfl⟩⟩
  generalize nq t c=e at*
  rw[gX aht (by simp[c26])]
  unfold ue TB iS at*
  simp only[qA,seval,c26,C,h,D,aoq]
end
theorem IJ{s:List Nat}: ∀{l:List (List Nat)} {k:Nat},s∈l→ ∃i,∃hi:i<l.length,ixA s l k=((k+i:Nat):Int)∧l[i]=s
 | [],k,h=>by cases h
 |x::r,k,h=>by
  rw[ixA]
  by_cases e:x=s
  ·rw[if_pos e];exact⟨0,by simp,rfl,e⟩
  ·rw[if_neg e]
   rcases List.mem_cons.1 h with h|h
   ·exact absurd h.symm e
   ·obtain⟨i,hi,h1,C⟩:=IJ (k:=k+1) h
    exact⟨i+1,by simpa using hi,by rw[h1];congr 1;omega,by simpa using C⟩
theorem asC(s:List Nat)(l:List Zo)(a:T)(r:List T)(C:g8 a l.length r)(hc:ic C0 l r)(hlen:l.length≤1000):gS pE 151 [a,.s s] []=some (.i .i64 (ixA s (l.map Zo.nm) 0),[]):=by
 have hL:=fun fr lh sh D h1 E=>zi1 s l a r C hc hlen _ rfl _ rfl fr lh sh D h1 E
 have BC:=yS s (l.map Zo.nm) 0
 rw[gX Oy (by simp[HA])]
 generalize ixA s (l.map Zo.nm) 0=v at*
 by_cases h:v<0
 ·have e:=BC h
  subst e
  simp only[qA,seval,HA,hL]
 ·simp only[h,if_false,not_false_eq_true,forall_const]at hL
  simp only[qA,seval,HA,hL]
theorem asD(s:List Nat)(l:List Ap)(a:T)(r:List T)(C:g8 a l.length r)(hc:ic L8 l r)(hlen:l.length≤1000):gS pE 153 [a,.s s] []=some (.i .i64 (ixA s (l.map Ap.cd) 0),[]):=by
 have hL:=fun fr lh sh D h1 E=>ai1 s l a r C hc hlen _ rfl _ rfl fr lh sh D h1 E
 have BC:=yS s (l.map Ap.cd) 0
 rw[gX OA (by simp[HB])]
 generalize ixA s (l.map Ap.cd) 0=v at*
 by_cases h:v<0
 ·have e:=BC h
  subst e
  simp only[qA,seval,HB,hL]
 ·simp only[h,if_false,not_false_eq_true,forall_const]at hL
  simp only[qA,seval,HB,hL]
section
variable(t:Tt)(c:Ct)(zT aT fT a7 a8 a9 a10 hZ hU:T)(hT:vq t zT aT fT)(hC:xG c a7 a8 a9 a10 hZ hU)(ht:tq t=0)(hc:my c=0)
theorem P0(hT:vq t zT aT fT)(ht:tq t=0){s:List Nat}(hs:s∈t.ap.map Ap.cd): ∃a,gS pE 115 [.agg [zT,aT,fT],.s s] []=some (.agg (sf (CH t s) a),[])∧ZoT (CH t s) a:=by
 obtain⟨⟨U,r,H⟩,⟨ac,C,I⟩,⟨fc,V,f2⟩⟩:=hT
 obtain⟨_,l1,_,l2⟩:=Ns t ht
 have h1:=asD s t.ap aT ac C I (by omega)
 obtain⟨i,hi,W,J⟩:=IJ (k:=0) hs
 rw[List.length_map]at hi
 rw[List.getElem_map]at J
 have D:=(AL t ht).2.1 t.ap[i] (List.getElem_mem hi)
 have K:=asC t.ap[i].zn t.zo zT U r H (by omega)
 obtain⟨j,E,X,N⟩:=IJ (k:=0) D
 rw[List.length_map]at E
 rw[List.getElem_map]at N
 rw[W,Nat.zero_add]at h1
 rw[X,Nat.zero_add]at K
 have Y:=NI ht (List.getElem_mem hi) (List.getElem_mem E) J N
 obtain⟨r1,Z⟩:=KJ C I i hi
 obtain⟨O,sc,r2,h4,F,s2⟩:=GW r H j E
 rw[Y]
 refine⟨O, ?_,sc,F,s2⟩
 have hn: ¬((i:Nat):Int)<0:=by omega
 generalize t.ap[i]=u at*
 generalize t.zo[j]=z at*
 have h5:gS pE 185 [.agg [zT,aT,fT],.s s] []=some (.tup [.agg (sf z O),.b true],[]):=by
  unfold sf
  rw[gX aeE (by simp[Ue])]
  simp only[qA,seval,iR,iy,Ue,h1,K,Z,h4,hn,F.froz1,r.froz,C.froz,qC,JI,U8]
 unfold sf at*
 rw[gX U0 (by simp[TU])]
 simp only[qA,seval,TU,h5,F.froz1,r.froz1,C.froz1,V.froz1,apd]
end
theorem Hb(z:Zo)(a:T)(C:ZoT z a)(hv:mf z=0)(t:Int)(ht:rR t=true):gS pE 118 [.agg (sf z a),.i .i64 t] []=some (.i .i64 (z.clk t),[]):=by
 have h1:=Yq z a C hv t ht
 have r:froz1 a=true:=by obtain⟨E,D,_⟩:=C;exact D.froz1
 unfold sf at*
 rw[gX U2 (by simp[TX])]
 simp only[qA,seval,TX,h1,r,apf]
section
variable(t:Tt)(c:Ct)(zT aT fT a7 a8 a9 a10 hZ hU:T)(hT:vq t zT aT fT)(hC:xG c a7 a8 a9 a10 hZ hU)(ht:tq t=0)(hc:my c=0)
include hT hC ht hc
theorem YJ(f g:Fl)(V:f∈t.fl)(W:g∈t.fl):gS pE 74 [.agg [zT,aT,fT],.agg (iS c a7 a8 a9 a10 hZ hU),.s f.fr,.s g.to,.agg [.i .i64 (tm c f),.i .i64 (tn c g)]] []=some (.tup [.i .i64 (tn c g-tm c f),.i .i64 (IA t c f g),.i .i64 (K7 t c f g),.i .i64 (NJ t c f),.i .i64 (NK t c g)],[]):=by
 have F:=Yn t c zT aT fT a7 a8 a9 a10 hZ hU hT hC
 obtain⟨b1,b2,_,_,w3⟩:=K8 hc ((nh t ht).1 _ V) ((nh t ht).1 _ W)
 obtain⟨X,H,Rg⟩:=P0 t zT aT fT hT ht (nS ht V).1
 obtain⟨zb,I,r⟩:=P0 t zT aT fT hT ht (nS ht W).2
 have J:=BK ht (nS ht V).1
 have U:=BK ht (nS ht W).2
 have nf:=PV hc
 have i1:=C9 (x:=tm c f) (by omega)
 have i2:=C9 (x:=tn c g) (by omega)
 have o1:=vB _ X Rg (nU J).2.1 J (tm c f)
 have o2:=vB _ zb r (nU U).2.1 U (tn c g)
 have l1:=Hb _ X Rg J _ i1
 have l2:=Hb _ zb r U _ i2
 have d1:=Zo.off_bd J (tm c f)
 have d2:=Zo.off_bd U (tn c g)
 have Y:tm c f≤tn c g→_:=fun h=>ajx _ X Rg J (tm c f) (tn c g) c.nf c.nt ⟨by omega,by omega,by omega,by omega,by omega,by omega,by omega⟩
 have Z:IA t c f g=if tm c f≤tn c g then(CH t f.fr).bandM (tm c f) (tn c g) c.nf c.nt else 0:=by
  unfold IA
  by_cases h:tm c f<tn c g
  ·rw[if_pos h,if_pos (by omega)]
  ·rw[if_neg h]
   split
   ·have e:tm c f=tn c g:=by omega
    rw[e];unfold Zo.bandM;rw[xI _ (Int.le_refl _)]
   ·rfl
 have K:=Rg.choose_spec.1.froz1
 have N:=r.choose_spec.1.froz1
 have ca:=Rg.choose_spec.1.cells
 have cb:=r.choose_spec.1.cells
 rw[Z]
 unfold K7 NJ NK
 generalize tm c f=S at*
 generalize tn c g=E at*
 generalize CH t f.fr=C at*
 generalize CH t g.to=D at*
 have w4:wr .i64 (D.off E-C.off S)=D.off E-C.off S:=jL (by omega)
 have w5:wr .i64 (0-(D.off E-C.off S))=C.off S-D.off E:=by rw[jL (by omega)];omega
 have ZP:max (D.off E-C.off S) (C.off S-D.off E)=max (C.off S-D.off E) (D.off E-C.off S):=by omega
 generalize C.off S=p1 at*
 generalize D.off E=p2 at*
 unfold sf iS at*
 rw[gX ahA (by simp[c74])]
 by_cases O:S≤E
 ·have Y:=Y O
  rw[if_pos O]
  simp only[qA,seval,iR,Bz,iy,c74,H,I,w3,w4,w5,O,Y,o1,o2,l1,l2,qP,ZP,K,N,F,adW,adX,adZ,JE,ad0,ad1,ad2]
 ·rw[if_neg O]
  simp only[qA,seval,iR,Bz,iy,c74,H,I,w3,w4,w5,O,o1,o2,l1,l2,qP,ZP,K,N,F,adW,adX,adZ,JE,ad0,ad1,ad2]
end
def px(l:List (List Nat×Int)):List T:=l.flatMap fun p=> [.s p.1,.i .i64 p.2]
theorem YK(l:List (List Nat×Int)):(px l).length=l.length*2:=tQ (sz:=2) (fun _=>rfl) l
theorem YL(l:List (List Nat×Int))(p:List Nat×Int):px l++ [.s p.1,.i .i64 p.2]=px (l++ [p]):=by unfold px;rw[List.flatMap_append];rfl
def mA(A:List Int):List (List Nat×Int):=jb.zip A
theorem ints_at{A:List Int}{v:T}(h:g8 v A.length (ints A))(k:Nat)(C:k<A.length): ∃r,∀kk,sH v (.i kk (k:Int)) 1=some (.vp (.i .i64 A[k]::r)):=by
 refine⟨(ints A).drop (k+1),fun kk=> ?_⟩
 rw[h.ia (sz:=1) (by rw[kg];omega) C,Nat.mul_one,xB A k C]
theorem YM(k:Nat)(C:k<11): ∃r,∀kk,sH (.sl (strs jb) 11 true) (.i kk (k:Int)) 1=some (.vp (.s (jb[k]'(by show k<11;exact C))::r)):=by
 have hs:g8 (.sl (strs jb) 11 true) 11 (strs jb):= .inr ⟨true,rfl⟩
 refine⟨(strs jb).drop (k+1),fun kk=> ?_⟩
 rw[hs.ia (sz:=1) rfl C,Nat.mul_one,List.drop_eq_getElem_cons (by show k<11;exact C)]
 unfold strs
 rw[List.getElem_map]
theorem axZ(A:List Int)(v:T)(hA:A.length=11)(hv:g8 v A.length (ints A))(fr:Fr)(lh:hJ gR)(sh:List gR)(h1:an fr 1=v)(F:an fr 5= .nilsl)(C:an fr 6= .sl (strs jb) 11 true)(D:an fr 7= .i .i64 0):
  kV 29 uK fr lh sh (.ext 0)∧
  (iT (kH pE 29 uK fr lh sh) (an (kh pE 29 uK fr lh sh) 5) 27 2 11 (px (mA A))∧kb pE 29 uK fr lh sh=sh):=by
 refine jo (fun k st=> ∃(fr:Fr) (lh:hJ gR),st=⟨fr,lh,sh⟩∧an fr 1=v∧an fr 6= .sl (strs jb) 11 true∧an fr 7= .i .i64 (k:Int)∧iT lh (an fr 5) 27 2 k (px ((mA A).take k)))
  (fun K N O=>iT N (an K 5) 27 2 11 (px (mA A))∧O=sh) _ 11 ?_ ?_ fr lh sh ⟨fr,lh,rfl,h1,C,D,by rw[F];exact iT.nil⟩
 ·rintro k _ H ⟨fr,lh,rfl,h1,C,D,r⟩
  have U:(k:Int)<11:=by omega
  have V:=iG (k:=k) (by omega)
  obtain⟨Y,I⟩:=YM k H
  obtain⟨Z,Rw⟩:=ints_at hv k (by omega)
  have W:(mA A).length=11:=by unfold mA;rw[List.length_zip,hA];rfl
  have X:px ((mA A).take (k+1))=px ((mA A).take k)++ [.s (jb[k]'(by show k<11;exact H)),.i .i64 (A[k]'(by omega))]:=by
   rw[List.take_succ_eq_append_getElem (by omega),←YL]
   unfold mA
   rw[List.getElem_zip]
  rw[X]
  generalize jb[k]'(by show k<11;exact H)=nm at*
  generalize A[k]'(by omega)=x at*
  have J:=wT (sh:=sh) r [.s nm,.i .i64 x] rfl (bytes:=24) (by unfold roomy;omega) true
  have FQ:=r.notS
  have E:=rL r rfl
  generalize F:an fr 5=v5 at r J FQ E
  simp only[qA,seval,repl,iR,iy,qb,uK,h1,F,C,D,U,I,Rw,V,FQ,E,J.1]
  exact iN ⟨_,_,rfl,by simp only[qA,seval,h1],by simp only[qA,seval,C],by simp only[qA,seval],by simp only[qA,seval];exact J.2.1⟩
 ·rintro _ ⟨fr,lh,rfl,h1,C,D,r⟩
  have W:(mA A).length=11:=by unfold mA;rw[List.length_zip,hA];rfl
  rw[List.take_of_length_le (by omega)]at r
  simp only[qA,seval,uK,C,D,Int.lt_irrefl]
  exact jD ⟨rfl,by simp only[qA,seval];exact r,rfl⟩
theorem SQ(A:List Int)(v:T)(hA:A.length=11)(hv:g8 v A.length (ints A)):gS pE 243 [.i .i64 1,v] []=some (.sl (px (mA A)) 11 false,[]):=by
 have hL:=fun fr lh sh h1 r C D=>axZ A v hA hv fr lh sh h1 r C D
 have E:=fun m keep fr lh sh h1 r C D=>iT.fzW (m:=m) (keep:=keep) (sh:=sh) (hL fr lh sh h1 r C D).2.1
 have Ty:=fun keep fr lh sh h1 r C D=>iT.fzV (keep:=keep) (sh:=sh) (hL fr lh sh h1 r C D).2.1
 have F:lJ 11 (px (mA A))= .sl (px (mA A)) 11 false:=rfl
 rw[F]at E Ty
 rw[gX ae7 (by simp[Ux])]
 simp only[qA,seval,Ux,Ei,hL,Ty,Nd,Mv]
theorem ac5(l:List (List Nat))(k:Nat)(i:k<l.length):(l.map T.s)[k]? =some (.s l[k]):=by rw[List.getElem?_map,List.getElem?_eq_getElem i];rfl
theorem ax0(s:List Nat)(f:Fl)(ks:List (List Nat))(hlen:ks.length≤1000)(g:Nat)(fr:Fr)(lh:hJ gR)(sh:List gR)(r:iT lh (an fr 12) 98 1 ks.length (ks.map T.s))(D:an fr 14= .ptr .L 14 g 0)(C:an fr 16= .b false)(E:an fr 17= .i .i64 0)(F:a6 lh 14=⟨g,.cells (CZ f) 0 true⟩):
  kV 134 nT fr lh sh (.ext 2)∧
  (an (kh pE 134 nT fr lh sh) 16= .b (decide (f.ty∈ks))∧kH pE 134 nT fr lh sh=lh∧kb pE 134 nT fr lh sh=sh):=by
 unfold CZ at F
 refine jo (fun k st=> ∃(fr:Fr),st=⟨fr,lh,sh⟩∧iT lh (an fr 12) 98 1 ks.length (ks.map T.s)∧an fr 14= .ptr .L 14 g 0∧an fr 16= .b (decide (f.ty∈ks.take k))∧an fr 17= .i .i64 (k:Int))
  (fun U V W=>an U 16= .b (decide (f.ty∈ks))∧V=lh∧W=sh) _ ks.length ?_ ?_ fr lh sh ⟨fr,rfl,r,D,by rw[C];simp,E⟩
 ·rintro k _ I ⟨fr,rfl,r,D,C,E⟩
  have K:(k:Int)<ks.length:=by omega
  have N:=iG (k:=k) (by omega)
  have H:=r.lenI
  rcases r with⟨h,_,_⟩|⟨g2,wm,r,o98,hl,hp⟩
  ·omega
  have Rv:=ac5 ks k I
  have X:decide (f.ty∈ks.take (k+1))=(decide (f.ty∈ks.take k)||decide (ks[k]=f.ty)):=by
   rw[List.take_succ_eq_append_getElem I]
   generalize ks.take k=L
   generalize ks[k]=y
   by_cases h1:f.ty∈L
   ·simp[h1]
   ·by_cases J:y=f.ty
    ·simp[J]
    ·simp[h1,J,Ne.symm J]
  have O:iT lh (an fr 12) 98 1 ks.length (ks.map T.s):= .inr ⟨g2,wm,r,o98,hl,hp⟩
  rw[r]at H
  rw[X]
  generalize ks[k]=y at*
  cases Y:decide (f.ty∈ks.take k) <;> rw[Y]at C
  ·simp only[Bool.false_or]
   simp only[qA,seval,nT,r,D,C,E,F,o98,H,K,I,Rv,N]
   exact iN ⟨_,rfl,by simp only[qA,seval,←r];exact O,by simp only[qA,seval,D],by simp only[qA,seval],by simp only[qA,seval]⟩
  ·simp only[Bool.true_or]
   simp only[qA,seval,nT,r,C,E,H,K,N]
   exact iN ⟨_,rfl,by simp only[qA,seval,←r];exact O,by simp only[qA,seval,D],by simp only[qA,seval],by simp only[qA,seval]⟩
 ·rintro _ ⟨fr,rfl,r,D,C,E⟩
  rw[List.take_length]at C
  have H:=r.lenI
  simp only[qA,seval,nT,E,H,Int.lt_irrefl]
  exact jD ⟨rfl,by simp only[qA,seval,C],rfl,rfl⟩
theorem agH{fr:Fr}{lh:hJ gR}{sh:List gR}{D:Option (Out×St)}(f:Fl)(ks:List (List Nat))(hlen:ks.length≤1000)(g:Nat)(F:DC pE 134 (.loop nT) ⟨fr,lh,sh⟩=D)(r:iT lh (an fr 12) 98 1 ks.length (ks.map T.s))(H:an fr 14= .ptr .L 14 g 0)(I:an fr 16= .b false)(J:an fr 17= .i .i64 0)(C:a6 lh 14=⟨g,.cells (CZ f) 0 true⟩):
  ∃E,D=some (.ext 2,⟨E,lh,sh⟩)∧an E 16= .b (decide (f.ty∈ks))∧ ∀s,(kJ (.loop nT)).contains s=false→an E s=an fr s:=by
 obtain⟨e,K,N,O⟩:=ax0 [] f ks hlen g fr lh sh r H I J C
 unfold kV at e;rw[N,O]at e
 exact⟨_,F.symm.trans e,K,fun s hs=>lW e s hs⟩
section
variable(t:Tt)(c:Ct)(zT aT fT a7 a8 a9 a10 hZ hU:T)(hT:vq t zT aT fT)(hC:xG c a7 a8 a9 a10 hZ hU)(ht:tq t=0)(hc:my c=0)
theorem ax1(hT:vq t zT aT fT)(ht:tq t=0)(d:List (Int×Bool))(dT:T)(hd:EA d dT)(hlen:d.length≤100)(iI: ∀k∈d,A0 t.fl.length k.1=true)(E4:gR)(fr:Fr)(lh:hJ gR)(sh:List gR)(J:an fr 2=dT)(K:an fr 3= .ptr .L 3 1 0)(h4:an fr 4= .ptr .L 4 1 0)(h7:an fr 7= .i .i64 0)(X:an fr 8= .i .i64 0)(h9:an fr 9= .i .i64 0)(F:an fr 10= .i .i64 0)(H:an fr 11= .i .i64 1440)(h12:an fr 12= .nilsl)(Y:an fr 13= .i .i64 0)(I:a6 lh 3=⟨1,.cells [zT,aT,fT] 0 true⟩)(Z:a6 lh 4=E4):
  kV 134 lF fr lh sh (.ext 0)∧
  (an (kh pE 134 lF fr lh sh) 7= .i .i64 (pQ t.fl d d.length).lg∧an (kh pE 134 lF fr lh sh) 8= .i .i64 (pQ t.fl d d.length).hd∧an (kh pE 134 lF fr lh sh) 9= .i .i64 (pQ t.fl d d.length).bk∧an (kh pE 134 lF fr lh sh) 10= .i .i64 (pQ t.fl d d.length).lo∧an (kh pE 134 lF fr lh sh) 11= .i .i64 (pQ t.fl d d.length).so∧lenI (an (kh pE 134 lF fr lh sh) 12)=some (.i .i64 ((pQ t.fl d d.length).ks.length:Int))∧a6 (kH pE 134 lF fr lh sh) 3=⟨1,.cells [zT,aT,fT] 0 true⟩∧a6 (kH pE 134 lF fr lh sh) 4=E4∧kb pE 134 lF fr lh sh=sh):=by
 refine jo (fun k st=> ∃(fr:Fr) (lh:hJ gR),st=⟨fr,lh,sh⟩∧an fr 2=dT∧an fr 3= .ptr .L 3 1 0∧an fr 4= .ptr .L 4 1 0∧an fr 7= .i .i64 (pQ t.fl d k).lg∧an fr 8= .i .i64 (pQ t.fl d k).hd∧an fr 9= .i .i64 (pQ t.fl d k).bk∧an fr 10= .i .i64 (pQ t.fl d k).lo∧an fr 11= .i .i64 (pQ t.fl d k).so∧an fr 13= .i .i64 (k:Int)∧iT lh (an fr 12) 98 1 (pQ t.fl d k).ks.length ((pQ t.fl d k).ks.map T.s)∧a6 lh 3=⟨1,.cells [zT,aT,fT] 0 true⟩∧a6 lh 4=E4)
  (fun r il iw=>an r 7= .i .i64 (pQ t.fl d d.length).lg∧an r 8= .i .i64 (pQ t.fl d d.length).hd∧an r 9= .i .i64 (pQ t.fl d d.length).bk∧an r 10= .i .i64 (pQ t.fl d d.length).lo∧an r 11= .i .i64 (pQ t.fl d d.length).so∧lenI (an r 12)=some (.i .i64 ((pQ t.fl d d.length).ks.length:Int))∧a6 il 3=⟨1,.cells [zT,aT,fT] 0 true⟩∧a6 il 4=E4∧iw=sh) _ d.length ?_ ?_ fr lh sh ⟨fr,lh,rfl,J,K,h4,h7,X,h9,F,H,Y,by rw[h12];exact iT.nil,I,Z⟩
 ·rintro k _ hk ⟨fr,lh,rfl,J,K,h4,h7,X,h9,F,H,Y,N,I,Z⟩
  have iu:(k:Int)<d.length:=by omega
  have hw:=iG (k:=k) (by omega)
  have xY:=(nh t ht).1
  have nV:=hd.sl.lenI
  obtain⟨rr,iv⟩:=rQ hd k hk
  obtain⟨i,hi,ei,ef,Z6⟩:=nJ xY iI hk
  obtain⟨fc,fc1,fc2⟩:=hT.f
  obtain⟨r2,O⟩:=tX fc1 fc2 i hi
  rw[←ef]at O
  have hcn:=IC xY iI k (by omega)
  have sd:pQ t.fl d (k+1)=if k=0 then Tz (kF t.fl d k) d[k].2 (pQ t.fl d k)else cnG (kF t.fl d (k-1)) (kF t.fl d k) (Tz (kF t.fl d k) d[k].2 (pQ t.fl d k)):=by rw[pQ,NM hk]
  rw[sd]
  obtain⟨c1,c2,c3,c4,c5,c6⟩:=hcn
  have mF:=fun(il:hJ gR) (iw:List gR) (e:a6 il 98=a6 lh 98)=>(wT (sh:=iw) (N.congr e) [.s (kF t.fl d k).ty] rfl (bytes:=16) (agC (by omega)) true)
  have wW:=fun(il:hJ gR) (iw:List gR) (e:a6 il 98=a6 lh 98)=>(mF il iw e).1
  have FQ:=N.notS
  rw[ei]at iv
  have fa:=Z6
  obtain⟨_,f1,f2,f3,f4⟩:=fa
  generalize SR:an fr 12=v12 at N mF wW FQ
  generalize pQ t.fl d k=s at*
  have w1:wr .i64 (s.lg+1)=s.lg+1:=jL (by omega)
  have w2:wr .i64 (s.hd+1)=s.hd+1:=jL (by omega)
  have w3:wr .i64 (s.bk+(kF t.fl d k).ar)=s.bk+(kF t.fl d k).ar:=jL (by omega)
  have w4:wr .i64 (s.bk+(kF t.fl d k).ar-(kF t.fl d k).dp)=s.bk+((kF t.fl d k).ar-(kF t.fl d k).dp):=by rw[jL (by omega)];omega
  by_cases Sr:k=0
  ·have SI: ¬(0:Int)<(k:Int):=by omega
   rw[if_pos Sr]
   generalize kF t.fl d k=f at*
   generalize d[k].2=b at*
   unfold Tz adK at*
   cases b with
   |true=>
    simp only[if_true]
    simp only[qA,seval,iR,Bz,iy,lF,J,K,X,Y,I,nV,iu,hw,iv,O,w2,SI]
    exact iN ⟨_,_,rfl,by simp only[qA,seval,J],by simp only[qA,seval,K],by simp only[qA,seval,h4],by simp only[qA,seval,h7],by simp only[qA,seval],by simp only[qA,seval,h9],by simp only[qA,seval,F],by simp only[qA,seval,H],by simp only[qA,seval],by simp only[qA,seval,SR];exact N.congr (by simp only[qA,seval]),by simp only[qA,seval,I],by simp only[qA,seval,Z]⟩
   |false=>
    simp only[Bool.false_eq_true,if_false]
    simp only[qA,seval,iR,Bz,iy,lF,J,K,h7,X,h9,Y,I,nV,iu,iv,O,w1,w2,w3,w4,SI]
    generalize hD:DC pE 134 (.loop nT) _=D
    obtain⟨r,rfl,E,C⟩:=agH f s.ks (by omega) ((a6 lh 14).g+1) hD (by simp only[qA,seval,SR];exact N.congr (by simp only[qA,seval])) (by simp only[qA,seval]) (by simp only[qA,seval]) (by simp only[qA,seval]) (by unfold CZ;simp only[qA,seval])
    have p2:an r 2=dT:=by rw[C 2 (by decide)];simp only[qA,seval,J]
    have p3:an r 3= .ptr .L 3 1 0:=by rw[C 3 (by decide)];simp only[qA,seval,K]
    have p4:an r 4= .ptr .L 4 1 0:=by rw[C 4 (by decide)];simp only[qA,seval,h4]
    have p7:an r 7= .i .i64 (s.lg+1):=by rw[C 7 (by decide)];simp only[qA,seval]
    have p8:an r 8= .i .i64 s.hd:=by rw[C 8 (by decide)];simp only[qA,seval,X]
    have p9:an r 9= .i .i64 (s.bk+(f.ar-f.dp)):=by rw[C 9 (by decide)];simp only[qA,seval]
    have Z5:an r 10= .i .i64 s.lo:=by rw[C 10 (by decide)];simp only[qA,seval,F]
    have U:an r 11= .i .i64 s.so:=by rw[C 11 (by decide)];simp only[qA,seval,H]
    have V:an r 12=v12:=by rw[C 12 (by decide)];simp only[qA,seval,SR]
    have W:an r 13= .i .i64 (k:Int):=by rw[C 13 (by decide)];simp only[qA,seval,Y]
    have p14:an r 14= .ptr .L 14 ((a6 lh 14).g+1) 0:=by rw[C 14 (by decide)];simp only[qA,seval]
    by_cases hm:f.ty∈s.ks
    ·rw[decide_eq_true hm]at E
     rw[if_pos hm]
     simp only[qA,seval,W,E,hw]
     exact iN ⟨_,_,rfl,by simp only[qA,seval,p2],by simp only[qA,seval,p3],by simp only[qA,seval,p4],by simp only[qA,seval,p7],by simp only[qA,seval,p8],by simp only[qA,seval,p9],by simp only[qA,seval,Z5],by simp only[qA,seval,U],by simp only[qA,seval],by simp only[qA,seval,V];exact N.congr (by simp only[qA,seval]),by simp only[qA,seval,I],by simp only[qA,seval,Z]⟩
    ·rw[decide_eq_false hm]at E
     rw[if_neg hm]
     simp only[qA,seval,repl,V,W,p14,E,hw,FQ,wW]
     exact iN ⟨_,_,rfl,by simp only[qA,seval,p2],by simp only[qA,seval,p3],by simp only[qA,seval,p4],by simp only[qA,seval,p7],by simp only[qA,seval,p8],by simp only[qA,seval,p9],by simp only[qA,seval,Z5],by simp only[qA,seval,U],by simp only[qA,seval],by simp only[qA,seval];rw[List.length_append,List.map_append];exact(mF _ _ (by simp only[qA,seval])).2.1,by rw[(mF _ _ (by simp only[qA,seval])).2.2 3 (by decide)];simp only[qA,seval,I],by rw[(mF _ _ (by simp only[qA,seval])).2.2 4 (by decide)];simp only[qA,seval,Z]⟩
  ·have SI:(0:Int)<(k:Int):=by omega
   have tY:=oF (k:=k) (by omega) (by omega)
   obtain⟨r3,Cj⟩:=rQ hd (k-1) (by omega)
   obtain⟨j,hj,ej,eg,gok⟩:=nJ xY iI (k:=k-1) (by omega)
   obtain⟨r4,hfb⟩:=tX fc1 fc2 j hj
   rw[←eg]at hfb
   rw[ej]at Cj
   have gap:=NL Z6 gok
   have w5:wr .i64 ((kF t.fl d k).dp-(kF t.fl d (k-1)).ar)=(kF t.fl d k).dp-(kF t.fl d (k-1)).ar:=jL (by omega)
   rw[if_neg Sr]
   generalize kF t.fl d k=f at*
   generalize kF t.fl d (k-1)=g at*
   generalize d[k].2=b at*
   unfold cnG Tz adK at*
   cases b with
   |true=>
    simp only[if_true]
    simp only[qA,seval,iR,Bz,iy,lF,J,K,X,F,H,Y,I,nV,iu,hw,iv,O,w2,qP,sX,SI,Cj,hfb,tY,w5]
    exact iN ⟨_,_,rfl,by simp only[qA,seval,J],by simp only[qA,seval,K],by simp only[qA,seval,h4],by simp only[qA,seval,h7],by simp only[qA,seval],by simp only[qA,seval,h9],by simp only[qA,seval],by simp only[qA,seval],by simp only[qA,seval],by simp only[qA,seval,SR];exact N.congr (by simp only[qA,seval]),by simp only[qA,seval,I],by simp only[qA,seval,Z]⟩
   |false=>
    simp only[Bool.false_eq_true,if_false]
    simp only[qA,seval,iR,Bz,iy,lF,J,K,h7,X,h9,F,H,Y,I,nV,iu,iv,O,w1,w2,w3,w4,qP,sX,SI,Cj,hfb,tY,w5]
    generalize hD:DC pE 134 (.loop nT) _=D
    obtain⟨r,rfl,E,C⟩:=agH f s.ks (by omega) ((a6 lh 14).g+1) hD (by simp only[qA,seval,SR];exact N.congr (by simp only[qA,seval])) (by simp only[qA,seval]) (by simp only[qA,seval]) (by simp only[qA,seval]) (by unfold CZ;simp only[qA,seval])
    have p2:an r 2=dT:=by rw[C 2 (by decide)];simp only[qA,seval,J]
    have p3:an r 3= .ptr .L 3 1 0:=by rw[C 3 (by decide)];simp only[qA,seval,K]
    have p4:an r 4= .ptr .L 4 1 0:=by rw[C 4 (by decide)];simp only[qA,seval,h4]
    have p7:an r 7= .i .i64 (s.lg+1):=by rw[C 7 (by decide)];simp only[qA,seval]
    have p8:an r 8= .i .i64 s.hd:=by rw[C 8 (by decide)];simp only[qA,seval,X]
    have p9:an r 9= .i .i64 (s.bk+(f.ar-f.dp)):=by rw[C 9 (by decide)];simp only[qA,seval]
    have Z5:an r 10= .i .i64 (max s.lo (f.dp-g.ar)):=by rw[C 10 (by decide)];simp only[qA,seval]
    have U:an r 11= .i .i64 (min s.so (f.dp-g.ar)):=by rw[C 11 (by decide)];simp only[qA,seval]
    have V:an r 12=v12:=by rw[C 12 (by decide)];simp only[qA,seval,SR]
    have W:an r 13= .i .i64 (k:Int):=by rw[C 13 (by decide)];simp only[qA,seval,Y]
    have p14:an r 14= .ptr .L 14 ((a6 lh 14).g+1) 0:=by rw[C 14 (by decide)];simp only[qA,seval]
    by_cases hm:f.ty∈s.ks
    ·rw[decide_eq_true hm]at E
     rw[if_pos hm]
     simp only[qA,seval,W,E,hw]
     exact iN ⟨_,_,rfl,by simp only[qA,seval,p2],by simp only[qA,seval,p3],by simp only[qA,seval,p4],by simp only[qA,seval,p7],by simp only[qA,seval,p8],by simp only[qA,seval,p9],by simp only[qA,seval,Z5],by simp only[qA,seval,U],by simp only[qA,seval],by simp only[qA,seval,V];exact N.congr (by simp only[qA,seval]),by simp only[qA,seval,I],by simp only[qA,seval,Z]⟩
    ·rw[decide_eq_false hm]at E
     rw[if_neg hm]
     simp only[qA,seval,repl,V,W,p14,E,hw,FQ,wW]
     exact iN ⟨_,_,rfl,by simp only[qA,seval,p2],by simp only[qA,seval,p3],by simp only[qA,seval,p4],by simp only[qA,seval,p7],by simp only[qA,seval,p8],by simp only[qA,seval,p9],by simp only[qA,seval,Z5],by simp only[qA,seval,U],by simp only[qA,seval],by simp only[qA,seval];rw[List.length_append,List.map_append];exact(mF _ _ (by simp only[qA,seval])).2.1,by rw[(mF _ _ (by simp only[qA,seval])).2.2 3 (by decide)];simp only[qA,seval,I],by rw[(mF _ _ (by simp only[qA,seval])).2.2 4 (by decide)];simp only[qA,seval,Z]⟩
 ·rintro _ ⟨fr,lh,rfl,J,K,h4,h7,X,h9,F,H,Y,N,I,Z⟩
  have nV:=hd.sl.lenI
  simp only[qA,seval,lF,J,Y,nV,Int.lt_irrefl]
  exact jD ⟨rfl,by simp only[qA,seval,h7],by simp only[qA,seval,X],by simp only[qA,seval,h9],by simp only[qA,seval,F],by simp only[qA,seval,H],by simp only[qA,seval];exact N.lenI,I,Z,rfl⟩
end
section
variable(t:Tt)(c:Ct)(zT aT fT a7 a8 a9 a10 hZ hU:T)(hT:vq t zT aT fT)(hC:xG c a7 a8 a9 a10 hZ hU)(ht:tq t=0)(hc:my c=0)(d:List (Int×Bool))(dT:T)(hd:EA d dT)(h1:1≤d.length)(hlen:d.length≤100)(iI: ∀k∈d,A0 t.fl.length k.1=true)
include hT ht hd h1 hlen iI
theorem Hc:gS pE 106 [.agg [zT,aT,fT],dT] []=some (.agg (CZ (kF t.fl d 0)),[]):=by
 obtain⟨i,j,H,I,hi,J,r,K,C,N⟩:=Ha t zT aT fT hT ht d dT hd h1 hlen iI
 obtain⟨⟨O,U,V⟩,⟨ac,W,X⟩,⟨Y,D,E⟩⟩:=hT
 obtain⟨Z,F⟩:=tX D E i hi
 rw[r]
 generalize t.fl[i]=f at*
 unfold CZ
 rw[gX UX (by simp[TQ])]
 simp only[qA,seval,iR,iy,TQ,C,F]
theorem Lh:gS pE 107 [.agg [zT,aT,fT],dT] []=some (.agg (CZ (kF t.fl d (d.length-1))),[]):=by
 obtain⟨i,j,K,N,hi,r,O,C,U,D⟩:=Ha t zT aT fT hT ht d dT hd h1 hlen iI
 obtain⟨⟨V,W,X⟩,⟨ac,Y,Z⟩,⟨fc,E,F⟩⟩:=hT
 obtain⟨r3,H⟩:=tX E F j r
 rw[C]
 generalize t.fl[j]=f at*
 have I:=oF (k:=d.length) (by omega) (by omega)
 have J:=hd.sl.lenI
 unfold CZ
 rw[gX UY (by simp[TR])]
 simp only[qA,seval,iR,iy,TR,J,I,D,H]
include hC hc
theorem Lj:gS pE 65 [.agg [zT,aT,fT],.agg (iS c a7 a8 a9 a10 hZ hU),dT] []=some (.agg [.i .i64 (tm c (kF t.fl d 0)),.i .i64 (tn c (kF t.fl d (d.length-1)))],[]):=by
 have D:=Yn t c zT aT fT a7 a8 a9 a10 hZ hU hT hC
 have Ee:=Hc t zT aT fT hT ht d dT hd h1 hlen iI
 have XC:=Lh t zT aT fT hT ht d dT hd h1 hlen iI
 obtain⟨_,_,_,_,Z6⟩:=nJ (nh t ht).1 iI (k:=0) (by omega)
 obtain⟨_,_,_,_,r⟩:=nJ (nh t ht).1 iI (k:=d.length-1) (by omega)
 obtain⟨_,_,F,H,_⟩:=K8 hc Z6 r
 generalize kF t.fl d 0=f at*
 generalize kF t.fl d (d.length-1)=g at*
 generalize tm c f=S at*
 generalize tn c g=E at*
 have C:=hd.sl.froz
 unfold CZ iS at*
 rw[gX ahz (by simp[c65])]
 simp only[qA,seval,iR,iy,c65,Ee,XC,F,H,D,C,adP,adQ,adR,adS]
theorem ajN:gS pE 166 [.agg [zT,aT,fT],.agg (iS c a7 a8 a9 a10 hZ hU),dT] []=some (.sl (px (mA (jU t c d))) 11 false,[]):=by
 have H:=Yn t c zT aT fT a7 a8 a9 a10 hZ hU hT hC
 have Ee:=Hc t zT aT fT hT ht d dT hd h1 hlen iI
 have XC:=Lh t zT aT fT hT ht d dT hd h1 hlen iI
 have CV:=Lj t c zT aT fT a7 a8 a9 a10 hZ hU hT hC ht hc d dT hd h1 hlen iI
 obtain⟨i,hi,_,I,_⟩:=nJ (nh t ht).1 iI (k:=0) (by omega)
 obtain⟨j,J,_,K,_⟩:=nJ (nh t ht).1 iI (k:=d.length-1) (by omega)
 have r:=YJ t c zT aT fT a7 a8 a9 a10 hZ hU hT hC ht hc (kF t.fl d 0) (kF t.fl d (d.length-1)) (by rw[I];exact List.getElem_mem hi) (by rw[K];exact List.getElem_mem J)
 have hL:=fun E4 fr lh sh N O U V W X C D E Y Z o4=>ax1 t zT aT fT hT ht d dT hd hlen iI E4 fr lh sh N O U V W X C D E Y Z o4
 have jZ:=SQ (jU t c d) (.sl (ints (jU t c d)) 11 true) rfl (.inr ⟨true,rfl⟩)
 have F:=hd.sl.froz
 unfold jU at*
 generalize pQ t.fl d d.length=s at*
 generalize kF t.fl d 0=f at*
 generalize kF t.fl d (d.length-1)=g at*
 unfold ints at jZ
 simp only[List.map_cons,List.map_nil]at jZ
 generalize px _=AC at*
 unfold CZ iS at*
 rw[gX aev (by simp[T6])]
 simp only[qA,seval,repl,iR,iy,T6,QJ,hL,Ee,XC,CV,r,jZ,H,F,adP,adQ,adR,adS,aox,avS,avY,avZ,apD]
end
section
variable(t:Tt)(c:Ct)(zT aT fT a7 a8 a9 a10 hZ hU:T)(hT:vq t zT aT fT)(hC:xG c a7 a8 a9 a10 hZ hU)(hN:CtN c)(hL: ∀f∈t.fl,f.nu.length≤l6)(d:List (Int×Bool))(dT:T)(hd:EA d dT)(hlen:d.length≤1000)
include hT hC hN hL hd hlen
theorem P1: ∃v,gS pE 104 [.agg [zT,aT,fT],.agg (iS c a7 a8 a9 a10 hZ hU),dT] []=some (.tup [v,.i .i64 (if nq t c≠0 then nq t c else vz c t.fl d)],[])∧((if nq t c≠0 then nq t c else vz c t.fl d)=0→v= .sl (px (mA (jU t c d))) 11 false)∧froz1 v=true:=by
 have H:=Yn t c zT aT fT a7 a8 a9 a10 hZ hU hT hC
 have E:=acR t c zT aT fT a7 a8 a9 a10 hZ hU hT hC hN hL d dT hd hlen
 have C:=hd.sl.froz
 by_cases r:(if nq t c≠0 then nq t c else vz c t.fl d)=0
 ·have D:nq t c=0:=by
   by_cases h:nq t c=0
   ·exact h
   ·rw[if_pos h]at r;exact r
  have hs:vz c t.fl d=0:=by rw[if_neg (by simp[D])]at r;exact r
  obtain⟨ht,hc⟩:=Nz t c zT aT fT a7 a8 a9 a10 hZ hU hT hC hN D
  obtain⟨h1,I,iI,_⟩:=II hs
  have F:=ajN t c zT aT fT a7 a8 a9 a10 hZ hU hT hC ht hc d dT hd h1 (by omega) iI
  rw[r]at E ⊢
  refine⟨_, ?_,fun _=>rfl,rfl⟩
  rw[gX UW (by simp[Mi])]
  unfold iS at*
  simp only[qA,seval,Mi,E,F,H,C,aov,ao8]
 ·generalize (if nq t c≠0 then nq t c else vz c t.fl d)=e at*
  refine⟨.nilsl, ?_,fun h=>absurd h r,rfl⟩
  rw[gX UW (by simp[Mi])]
  unfold iS at*
  simp only[qA,seval,Mi,E,r,H,C,aov]
end
theorem IK{l:List (List Nat×Int)}{v:T}(h:g8 v l.length (px l))(j:Nat)(C:j<l.length): ∃r,∀kk,sH v (.i kk (j:Int)) 2=some (.vp (.s l[j].1:: .i .i64 l[j].2::r)):=by
 refine⟨px (l.drop (j+1)),fun kk=> ?_⟩
 rw[h.ia (YK l) C]
 unfold px
 rw[Bu (sz:=2) (fun _=>rfl) l j C];rfl
theorem ax3(s:List Nat)(l:List (List Nat×Int))(a:T)(F:g8 a l.length (px l))(hlen:l.length≤1000)(r:Int)(C:r=ixA s (l.map Prod.fst) 0)(o:Out)(I:o=if r<0 then .ext 0 else .ret)(fr:Fr)(lh:hJ gR)(sh:List gR)(D:an fr 0=a)(h1:an fr 1= .s s)(E:an fr 5= .i .i64 0):
  kV 20 xf fr lh sh o∧
  ((¬r<0→an (kh pE 20 xf fr lh sh) 4= .i .i64 r)∧kb pE 20 xf fr lh sh=sh):=by
 refine jo (fun k st=> ∃(fr:Fr) (lh:hJ gR),st=⟨fr,lh,sh⟩∧r=ixA s ((l.drop k).map Prod.fst) k∧an fr 0=a∧an fr 1= .s s∧an fr 5= .i .i64 (k:Int))
  (fun K W N=>(¬r<0→an K 4= .i .i64 r)∧N=sh) _ l.length ?_ ?_ fr lh sh ⟨fr,lh,rfl,C,D,h1,E⟩
 ·rintro k _ J ⟨fr,lh,rfl,C,D,h1,E⟩
  have O:(k:Int)<l.length:=by omega
  have U:=iG (k:=k) (by omega)
  obtain⟨X,V⟩:=IK F k J
  have H:=F.lenI
  rw[List.drop_eq_getElem_cons J,List.map_cons,ixA]at C
  generalize l[k]=y at*
  simp only[qB,seval,xf,D,h1,E,H,O,V,U]
  refine vh (fun h=> ?_) (fun h=> ?_)
  ·rw[if_pos h]at C
   exact vi ⟨by rw[I,if_neg (by omega)],fun _=>(by simp only[qA,seval,C]),rfl⟩
  ·rw[if_neg h]at C
   exact iN ⟨_,_,rfl,C,by simp only[qA,seval,D],by simp only[qA,seval,h1],by simp only[qA,seval]⟩
 ·rintro _ ⟨fr,lh,rfl,C,D,h1,E⟩
  rw[List.drop_length,List.map_nil,ixA]at C
  have H:=F.lenI
  simp only[qA,seval,xf,D,E,H,Int.lt_irrefl]
  exact jD ⟨by rw[I,if_pos (by omega)],fun h=>absurd (by omega) h,rfl⟩
theorem P2(s:List Nat)(l:List (List Nat×Int))(a:T)(r:g8 a l.length (px l))(hlen:l.length≤1000):gS pE 125 [a,.s s] []=some (.i .i64 (ixA s (l.map Prod.fst) 0),[]):=by
 have hL:=fun fr lh sh C h1 D=>ax3 s l a r hlen _ rfl _ rfl fr lh sh C h1 D
 have BC:=yS s (l.map Prod.fst) 0
 rw[gX ad7 (by simp[Qw])]
 generalize ixA s (l.map Prod.fst) 0=v at*
 by_cases h:v<0
 ·have e:=BC h
  subst e
  simp only[qA,seval,Qw,hL]
 ·simp only[h,if_false,not_false_eq_true,forall_const]at hL
  simp only[qA,seval,Qw,hL]
theorem ac7(k n:Int)(h:EL k n)(r:k≠4):gS pE 124 [.i .i64 k,.i .i64 n] []=some (.i .i64 n,[]):=by
 rw[gX ad6 (by simp[Mj])]
 have lM:bd n→gS pE 200 [.i .i64 n] []=some (.i .i64 n,[]):=by
  intro C
  have e:max (-1099511627776) (min 1099511627776 n)=n:=by unfold bd at C;omega
  rw[gX Vw (by simp[Mq])]
  simp only[qA,seval,Mq,qP,sX,e]
 rcases h with⟨h1|h1,h2⟩|⟨h1,h2,h3⟩|⟨h1,h2⟩
 ·have hc:=lM h2
  subst h1
  simp only[qA,seval,Mj,hc,Dt]
 ·have hc:=lM h2
  subst h1
  simp only[qA,seval,Mj,hc,Dt]
 ·have hs:=BJ n (by unfold Cp;omega)
  have e:n%1440=n:=by omega
  rw[e]at hs
  subst h1
  simp only[qA,seval,Mj,hs,OB]
 ·exact absurd h1 r
theorem SS(s:List Nat):oU s≠4:=by
 unfold oU
 split
 ·decide
 ·split
  ·decide
  ·split <;> decide
theorem SU{l:List (List Nat)}(h:l.Nodup){i j:Nat}(hi:i<l.length)(r:j<l.length)(e:l[i]=l[j]):i=j:=by
 rcases Nat.lt_trichotomy i j with h1|h1|h1
 ·exact absurd e (List.pairwise_iff_getElem.1 h i j hi r h1)
 ·exact h1
 ·exact absurd e.symm (List.pairwise_iff_getElem.1 h j i r hi h1)
theorem SV{s:List Nat}{i:Nat}(h:Ma 1 s=some i):i<11∧ixA s jb 0=(i:Int):=by
 have h1:jb[i]? =some s:=NN h
 obtain⟨hi,e⟩:=List.getElem?_eq_some_iff.1 h1
 obtain⟨j,r,C,D⟩:=IJ (k:=0) (List.mem_of_getElem? h1)
 have:j=i:=SU Lk r hi (by rw[D,e])
 exact⟨hi,by rw[C,this];simp⟩
section
variable(l:Cs)(lT vT nL:T)(cl:List T)(A:List Int)(hl:g8 lT l.length cl)(lM:kD l cl)(hlen:l.length≤oQ)(hv:g8 vT l.length (ints (tr l l.length)))(hA:Lb A)(jZ:g8 nL 11 (px (mA A)))
def asF(y:Ex):Prop:= ∀k cs,lK y cs→y.nodes≤100000→y.wf=true→y.ty (PX (Is l) 1) 0=(k,0)→gS pE 78 [vT,lT,.i .i64 1,nL,.agg cs] []=some (.i .i64 (y.val0 (vZ (mw l) 1 A)),[])
include hl hv jZ
theorem ax4(xs:List Ex)(ih: ∀y∈xs,asF l lT vT nL A y)(a:T)(U:List T)(N:g8 a xs.length U)(Y:jN xs U)(hn:jt xs≤100000)(Z:sM xs=true)(ts:List Int)(mK:pv (PX (Is l) 1) 0 xs= .ok ts)(op num:Int)(s:List Nat)(g:Nat)(fr:Fr)(lh:hJ gR)(sh:List gR)
  (D:an fr 0=vT) (h1:an fr 1=lT) (E:an fr 2= .i .i64 1) (F:an fr 3=nL) (r:an fr 9= .ptr .L 9 g 0) (O:an fr 13= .nilsl) (H:an fr 14= .i .i64 0) (K:a6 lh 9=⟨g,.cells [.i .i64 op,.i .i64 num,.s s,a] 0 true⟩):
  kV 70 nC fr lh sh (.ext 0)∧
  (iT (kH pE 70 nC fr lh sh) (an (kh pE 70 nC fr lh sh) 13) 63 1 xs.length (ints (kz (vZ (mw l) 1 A) xs))∧a6 (kH pE 70 nC fr lh sh) 9=a6 lh 9∧kb pE 70 nC fr lh sh=sh):=by
 refine ib (P:=fun iq V iw=>iT V (an iq 13) 63 1 xs.length (ints (kz (vZ (mw l) 1 A) xs))∧a6 V 9=a6 lh 9∧iw=sh)
  (ij (fun k st=> ∃(fr:Fr) (I:hJ gR),st=⟨fr,I,sh⟩∧an fr 0=vT∧an fr 1=lT∧an fr 2= .i .i64 1∧an fr 3=nL∧an fr 9= .ptr .L 9 g 0∧an fr 14= .i .i64 (k:Int)∧a6 I 9=a6 lh 9∧
    iT I (an fr 13) 63 1 k (ints (kz (vZ (mw l) 1 A) (xs.take k)))) _ xs.length ?_ ?_ 0 _ (Nat.zero_le _) ⟨fr,lh,rfl,D,h1,E,F,r,H,rfl,by rw[O];exact iT.nil⟩)
 ·rintro k _ Cr ⟨fr,I,rfl,D,h1,E,F,r,H,NS,C⟩
  left
  rw[K]at NS
  have iu:(k:Int)<xs.length:=by omega
  have DY:=jR xs
  have hyk:=mj (List.getElem_mem Cr)
  have hw:=iD (k:=k) (ku (by omega))
  obtain⟨b,cb,rr,iv,jE,oV,hb⟩:=mY N Y k Cr
  obtain⟨t,ht⟩:=IL mK k Cr
  have W:=ih xs[k] (List.getElem_mem Cr) t _ hb (by omega) (xE.1 Z _ (List.getElem_mem Cr)) ht
  have J:=oN C (ku (by omega)) (sh:=sh) (T.i .i64 (xs[k].val0 (vZ (mw l) 1 A))) true
  have X:kz (vZ (mw l) 1 A) (xs.take (k+1))=kz (vZ (mw l) 1 A) (xs.take k)++ [xs[k].val0 (vZ (mw l) 1 A)]:=by
   rw[List.take_succ_eq_append_getElem Cr,py,List.map_append,←py];rfl
  generalize xs[k].val0 (vZ (mw l) 1 A)=q at W J X
  generalize O:an fr 13=v13 at C J
  simp only[qA,seval,repl,nC,D,h1,E,F,r,O,H,NS,N.lenI,iu,iv,hw,W,Rc,jE.froz1,hv.froz,hl.froz,jZ.froz,C.notS,J.1]
  refine⟨_,rfl,_,_,rfl, ?_, ?_, ?_, ?_, ?_, ?_, ?_, ?_⟩
  all_goals first|(simp only[qA,seval,D,h1,E,F,r];done)|skip
  ·rw[J.2.2 9 (by decide),NS,K]
  ·simp only[qA,seval]
   rw[X,rW]
   exact J.2.1
 ·rintro _ ⟨fr,I,rfl,D,h1,E,F,r,H,NS,C⟩
  rw[K]at NS
  rw[List.take_length]at C
  simp only[qA,seval,nC,r,H,NS,N.lenI,Int.lt_irrefl]
  refine⟨_,_,jB,rfl,rfl, ?_,by rw[NS,K],rfl⟩
  simp only[qA,seval]
  exact C
include lM hlen hA
theorem ajO(x:Ex):asF l lT vT nL A x:=by
 induction x using Ex.ind with
 |h x ih=>
  intro k cs hx hn tu ht
  obtain⟨a,cc,rfl,ha,BB⟩:=hx.cells
  obtain⟨h1,F,r,IM,AR,Bl⟩:=xJ tu
  have hnd:=x.nodes_eq
  rw[gX Rb (by simp[Tj]),Ex.val0_eq]
  by_cases C:x.op=6
  ·rw[if_pos C]
   have r:=AB 1 x.name
   unfold tW at r
   by_cases D:ki 1 x.name=0
   ·rw[if_pos D]at r
    rw[Ex.ty_eq,if_pos C,if_neg (by simp[mM])]at ht
    unfold PX at ht
    rw[if_neg (by simp[D])]at ht
    rw[←BG]at ht
    obtain⟨i,qI,E,EP,_⟩:=xK (Nat.le_refl _) ht
    have Z9:=IN l x.name lT cl hl lM hlen
    rw[xL EP]at Z9
    have e1:=fun kk=>pz (ts:=tr l l.length) (by rw[nw];exact hv) (k:=i) (by rw[nw];exact E) kk
    have U:vZ (mw l) 1 A x.name=(tr l l.length)[i]'(by rw[nw];exact E):=by
     unfold vZ
     rw[(rU 1 x.name).2 D]
     simp only
     rw[←YN]
     unfold VX YO;rw[List.take_length,EP];simp[List.getD_eq_getElem?_getD,List.getElem?_eq_getElem (show i<(tr l l.length).length by rw[nw];exact E)]
    rw[U]
    simp only[qA,seval,Tj,C,D,r,wq,Z9,Ot,hl.froz,e1]
   ·rw[if_neg D]at r
    cases O:Ma 1 x.name with
    |none=>exact absurd ((rU 1 x.name).1 O) D
    |some i=>
     obtain⟨hi,L5⟩:=SV O
     have V:(mA A).length=11:=by unfold mA;rw[List.length_zip,hA.1];rfl
     have W:(mA A).map Prod.fst=jb:=by unfold mA;exact List.map_fst_zip (by rw[hA.1];exact Nat.le_refl _)
     have H:=P2 x.name (mA A) nL (by rw[V];exact jZ) (by omega)
     rw[W,L5]at H
     obtain⟨rr,iv⟩:=IK (l:=mA A) (v:=nL) (by rw[V];exact jZ) i (by omega)
     have JV:(mA A)[i].2=A.getD i 0:=by
      unfold mA
      rw[List.getElem_zip,List.getD_eq_getElem?_getD,List.getElem?_eq_getElem (by rw[hA.1];exact hi)];rfl
     rw[JV]at iv
     have E:=hA.2 i x.name (NN O)
     have X:ki 1 x.name=oU x.name:=rfl
     rw[X]at r D
     have Y:=ac7 _ _ E (SS _)
     have U:vZ (mw l) 1 A x.name=A.getD i 0:=by unfold vZ;rw[O]
     rw[U]
     generalize A.getD i 0=q at*
     generalize oU x.name=kk at*
     have Z:=jZ.froz
     simp only[qA,seval,Tj,C,r,wq,H,ad8,iv,Y,aoY,Z]
  ·rw[if_neg C]
   obtain⟨ts,tI,hr,hk⟩:=xM ht C
   have hL:=fun fr lh sh I h1 F h3 h9 nv jq o9=>ax4 l lT vT nL cl A hl hv jZ x.args (fun y hy=>ih y hy) a cc ha BB (by omega) Bl ts tI x.op x.num x.name 1 fr lh sh I h1 F h3 h9 nv jq o9
   have hO:=fun fr lh sh I h1 F h3 h9 nv jq o9=>iT.fzV (sh:=sh) (keep:=false) (hL fr lh sh I h1 F h3 h9 nv jq o9).2.1
   have V:=jR x.args
   have E:=ER (YA l hA) (scope:=0) (fun s=>mM s) Bl tI
   have ZX:=vF tI
   have J:(kz (vZ (mw l) 1 A) x.args).length=x.args.length:=by rw[py,List.length_map]
   by_cases h5:x.op≤5
   ·have qg:x.op=1∨x.op=2∨x.op=3∨x.op=4∨x.op=5:=by omega
    have K:=Ll x.op x.num qg (lJ x.args.length (ints (kz (vZ (mw l) 1 A) x.args)))
    have N:(if x.op=1∨x.op=2∨x.op=3 then x.num else if x.op=4 then 1 else if x.op=5 then 0 else FH x.op (kz (vZ (mw l) 1 A) x.args))=(if x.op=1∨x.op=2∨x.op=3 then x.num else if x.op=4 then 1 else 0):=by
     rcases qg with h|h|h|h|h <;> simp[h]
    rw[N]
    generalize (if x.op=1∨x.op=2∨x.op=3 then x.num else if x.op=4 then 1 else 0)=q at K ⊢
    simp only[qA,seval,Tj,zj,C,hL,hO,K,Ou]
   ·have h7:7≤x.op:=by omega
    have mF:=P3 E h7 F (by rw[ZX];exact r) hr hk
    have K:=Hd x.op x.num (kz (vZ (mw l) 1 A) x.args) (lJ x.args.length (ints (kz (vZ (mw l) 1 A) x.args))) (by rw[J];exact oA (fun I=>by rw[I]at J;rw[List.length_eq_zero_iff.1 J];rfl)) (by rw[J];exact ku (by omega)) h7 F (by rw[J];exact r) mF.1
    rw[if_neg (by omega),if_neg (by omega),if_neg (by omega)]
    generalize FH x.op (kz (vZ (mw l) 1 A) x.args)=q at K ⊢
    simp only[qA,seval,Tj,zj,C,hL,hO,K,Ou]
end
end Go.Proofs.YtblcbheipjeoeaaGreat
