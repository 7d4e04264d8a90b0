/- Walks, plain laws (13). Conditions: the theorems' own. -/
import Derived.Test.YtnkgnjecmfkcfaaGreatM12
set_option maxRecDepth 100000
set_option linter.all false
set_option maxHeartbeats 16000000
namespace Go.Proofs.YtnkgnjecmfkcfaaGreat
open Go Go.Ev
mutual
def Ex.al:Ex→Prop
 | .mk _ _ _ args=>args.length≤gJ∧alL args
def alL:List Ex→Prop
 | []=>True
 |x::xs=>x.al∧alL xs
end
structure CtA (c:Ct):Prop where
 a7:(∀u∈c.cs,u.2.al)∧c.cs.length≤gJ
 a8:(∀u∈c.ru,u.x.al)∧c.ru.length≤gJ
 a9:(∀u∈c.co,u.x.al)∧c.co.length≤gJ
 aw:(∀u∈c.cr,u.al)∧c.cr.length≤gJ
 aA:c.li.length≤gJ
 az:c.fs.length≤gJ
theorem Hw{s:List Nat}: ∀{l:List (List Nat)} {k:Nat},s∈l→ ∃i,∃hi:i<l.length,ixA s l k=((k+i:Nat):Int)∧l[i]=s
 | [],k,h=>by cases h
 |x::r,k,h=>by
  rw[ixA]
  by_cases e:x=s
  ·rw[if_pos e];exact⟨0,by simp,rfl,e⟩
  ·rw[if_neg e]
   rcases List.mem_cons.1 h with h|h
   ·grind
   ·obtain⟨i,hi,h1,h2⟩:=Hw (k:=k+1) h
    exact⟨i+1,by simpa using hi,by rw[h1];congr 1;omega,by simpa using h2⟩
section
variable(t:Tt)(c:Ct)(zT aT fT a7 a8 a9 aw aA az:T)(hT:jV t zT aT fT)(hC:kR c a7 a8 a9 aw aA az)(ht:np t=0)(hc:eH c=0)
theorem QE(hT:jV t zT aT fT)(ht:np t=0){s:List Nat}(hs:s∈t.ap.map Ap.cd): ∃a,ae pE 97 [.agg [zT,aT,fT],.s s] []=some (.agg (mJ (Am t s) a),[])∧ZoT (Am t s) a:=by
 obtain⟨⟨X,D,U⟩,⟨ac,F,V⟩,⟨fc,Y,f2⟩⟩:=hT
 obtain⟨_,l1,_,l2⟩:=NK t ht
 have h1:=alB s t.ap aT ac F V zV
 obtain⟨i,hi,e1,e2⟩:=Hw (k:=0) hs
 rw[List.length_map]at hi
 rw[List.getElem_map]at e2
 have I:=(wN t ht).2.1 t.ap[i] (List.getElem_mem hi)
 have h2:=alC t.ap[i].zn t.zo zT X D U zV
 obtain⟨j,K,e3,e4⟩:=Hw (k:=0) I
 rw[List.length_map]at K
 rw[List.getElem_map]at e4
 rw[e1,Nat.zero_add]at h1
 rw[e3,Nat.zero_add]at h2
 have Z:=NW ht (List.getElem_mem hi) (List.getElem_mem K) e2 e4
 obtain⟨r1,h3⟩:=KH F V i hi
 obtain⟨W,sc,r2,h4,O,s2⟩:=KG D U j K
 rw[Z]
 refine⟨W, ?_,sc,O,s2⟩
 have hn: ¬((i:Nat):Int)<0:=zV
 generalize t.ap[i]=u at*
 generalize t.zo[j]=z at*
 have h5:ae pE 170 [.agg [zT,aT,fT],.s s] []=some (.tup [.agg (mJ z W),.b true],[]):=by
  unfold mJ
  rw[au ajG (by simp[V0])]
  simp only[qA,seval,bg,aH,V0,h1,h2,h3,h4,hn,O.froz1,D.froz,F.froz,Pc,Xg,ajz]
 unfold mJ at*
 rw[au ank (by simp[c97])]
 simp only[qA,seval,c97,h5,O.froz1,D.froz1,F.froz1,Y.froz1,ayT]
end
def FJ(z:Zo)(a:T)(F:ZoT z a)(hv:ig z=0)(t:Int)(ht:oK t=true):ae pE 100 [.agg (mJ z a),qi t] []=some (qi (z.clk t),[]):=by
 have h1:=aaQ z a F hv t ht
 have D:froz1 a=true:=by obtain⟨K,I,_⟩:=F;exact I.froz1
 unfold mJ at*
 rw[au WW (by simp[Vx])]
 simp only[qA,seval,Vx,h1,D,ayV]
section
variable(t:Tt)(c:Ct)(zT aT fT a7 a8 a9 aw aA az:T)(hT:jV t zT aT fT)(hC:kR c a7 a8 a9 aw aA az)(ht:np t=0)(hc:eH c=0)
include hT hC ht hc
def abk(f g:Fl)(hf:f∈t.fl)(hg:g∈t.fl):ae pE 54 [.agg [zT,aT,fT],.agg (aO c a7 a8 a9 aw aA az),.s f.fr,.s g.to,.agg [qi (pX c f),qi (pY c g)]] []=some (.tup [qi (pY c g-pX c f),qi (Ef t c f g),qi (Ho t c f g),qi (K6 t c f),qi (K7 t c g)],[]):=by
 have O:=Aj t c zT aT fT a7 a8 a9 aw aA az hT hC
 obtain⟨b1,b2,_,_,w3⟩:=K8 hc ((fB t ht).1 _ hf) ((fB t ht).1 _ hg)
 obtain⟨za,U,Ml⟩:=QE t zT aT fT hT ht (iI ht hf).1
 obtain⟨zb,V,F⟩:=QE t zT aT fT hT ht (iI ht hg).2
 have W:=yH ht (iI ht hf).1
 have v2:=yH ht (iI ht hg).2
 have nf:=Qr hc
 have i1:=AM (x:=pX c f) zV
 have i2:=AM (x:=pY c g) zV
 have o1:=pV _ za Ml (iM W).2.1 W (pX c f)
 have o2:=pV _ zb F (iM v2).2.1 v2 (pY c g)
 have l1:=FJ _ za Ml W _ i1
 have l2:=FJ _ zb F v2 _ i2
 have d1:=Zo.off_bd W (pX c f)
 have d2:=Zo.off_bd v2 (pY c g)
 have bm:pX c f≤pY c g→_:=fun h=>apn _ za Ml W (pX c f) (pY c g) c.nf c.nt ⟨by omega,by omega,by omega,by omega,by omega,by omega,by omega⟩
 have hni:Ef t c f g=if pX c f≤pY c g then(Am t f.fr).bandM (pX c f) (pY c g) c.nf c.nt else 0:=by
  grind [Ef,Zo.bandM,sI]
 have X:=Ml.choose_spec.1.froz1
 have Y:=F.choose_spec.1.froz1
 have ca:=Ml.choose_spec.1.cells
 have cb:=F.choose_spec.1.cells
 rw[hni]
 unfold Ho K6 K7
 generalize pX c f=S at*
 generalize pY c g=E at*
 generalize Am t f.fr=I at*
 generalize Am t g.to=K at*
 have w4:wr .i64 (K.off E-I.off S)=K.off E-I.off S:=aZ zV
 have w5:wr .i64 (0-(K.off E-I.off S))=I.off S-K.off E:=by rw[aZ zV];omega
 have Z:max (K.off E-I.off S) (I.off S-K.off E)=max (I.off S-K.off E) (K.off E-I.off S):=zV
 generalize I.off S=p1 at*
 generalize K.off E=p2 at*
 unfold mJ aO at*
 rw[au amZ (by simp[c54])]
 by_cases D:S≤E
 ·have bm:=bm D
  rw[if_pos D]
  simp only[qA,seval,bg,CC,aH,c54,U,V,w3,w4,w5,D,bm,o1,o2,l1,l2,nz,Z,X,Y,O,ayc,ayd,ayf,WV,ayg,aiL,aiM]
 ·rw[if_neg D]
  simp only[qA,seval,bg,CC,aH,c54,U,V,w3,w4,w5,D,o1,o2,l1,l2,nz,Z,X,Y,O,ayc,ayd,ayf,WV,ayg,aiL,aiM]
end
def jX(l:List (List Nat×Int)):List T:=l.flatMap fun p=> [.s p.1,qi p.2]
theorem abl(l:List (List Nat×Int)):(jX l).length=l.length*2:=iC (sz:=2) (fun _=>rfl) l
theorem abm(l:List (List Nat×Int))(p:List Nat×Int):jX l++ [.s p.1,qi p.2]=jX (l++ [p]):=by unfold jX;rw[List.flatMap_append];rfl
def fK(A:List Int):List (List Nat×Int):=bC.zip A
def ints_at{A:List Int}{v:T}(h:IsSl v A.length (ints A))(k:Nat)(hk:k<A.length): ∃r,∀kk,iaV v (.i kk (k:Int)) 1=some (.vp (qi A[k]::r)):=by
 refine⟨(ints A).drop (k+1),fun kk=> ?_⟩
 rw[h.ia (sz:=1) (by rw[eu];omega) hk,Nat.mul_one,lY A k hk]
def abn(k:Nat)(hk:k<11): ∃r,∀kk,iaV (.sl (strs bC) 11 true) (.i kk (k:Int)) 1=some (.vp (.s (bC[k]'(by show k<11;exact hk))::r)):=by
 have hs:IsSl (.sl (strs bC) 11 true) 11 (strs bC):= .inr ⟨true,rfl⟩
 refine⟨(strs bC).drop (k+1),fun kk=> ?_⟩
 rw[hs.ia (sz:=1) rfl hk,Nat.mul_one,List.drop_eq_getElem_cons (by show k<11;exact hk)]
 unfold strs
 rw[List.getElem_map]
def aIs(A:List Int)(v:T)(hA:A.length=11)(hv:IsSl v A.length (ints A))(fr:Fr)(lh:aE ah)(sh:List ah)(h1:aa fr 1=v)(h5:aa fr 5= .nilsl)(h6:aa fr 6= .sl (strs bC) 11 true)(F:aa fr 7= qi 0):
  qz 29 ph fr lh sh (.ext 0)∧
  (aW (iL pE 29 ph fr lh sh) (aa (nM pE 29 ph fr lh sh) 5) 27 2 11 (jX (fK A))∧je pE 29 ph fr lh sh=sh):=by
 refine eG (fun k st=> ∃(fr:Fr) (lh:aE ah),st=⟨fr,lh,sh⟩∧aa fr 1=v∧aa fr 6= .sl (strs bC) 11 true∧aa fr 7= qi (k:Int)∧aW lh (aa fr 5) 27 2 k (jX ((fK A).take k)))
  (fun V aN W=>aW aN (aa V 5) 27 2 11 (jX (fK A))∧W=sh) _ 11 ?_ ?_ fr lh sh ⟨fr,lh,rfl,h1,h6,F,by rw[h5];exact aW.nil⟩
 ·rintro k _ hk ⟨fr,lh,rfl,h1,h6,F,D⟩
  have K:(k:Int)<11:=zV
  have X:=aF (k:=k) zV
  obtain⟨Z,Ei⟩:=abn k hk
  obtain⟨r2,Ax⟩:=ints_at hv k zV
  have Au:(fK A).length=11:=by unfold fK;rw[List.length_zip,hA];rfl
  have Y:jX ((fK A).take (k+1))=jX ((fK A).take k)++ [.s (bC[k]'(by show k<11;exact hk)),qi (A[k]' zV)]:=by
   rw[List.take_succ_eq_append_getElem zV,←abm]
   unfold fK
   rw[List.getElem_zip]
  rw[Y]
  generalize bC[k]'(by show k<11;exact hk)=nm at*
  generalize A[k]' zV=x at*
  have O:=de (sh:=sh) D [.s nm,qi x] rfl (bytes:=24) (by unfold roomy;omega) true
  have U:=D.notS
  have I:=NB D rfl
  generalize h5:aa fr 5=v5 at D O U I
  simp only[qA,seval,repl,bg,aH,fS,ph,h1,h5,h6,F,K,Ei,Ax,X,U,I,O.1]
  exact cZ ⟨_,_,rfl,by simp only[qA,seval,h1],by simp only[qA,seval,h6],by simp only[qA,seval],by simp only[qA,seval];exact O.2.1⟩
 ·rintro _ ⟨fr,lh,rfl,h1,h6,F,D⟩
  have Au:(fK A).length=11:=by unfold fK;rw[List.length_zip,hA];rfl
  rw[List.take_of_length_le zV]at D
  simp only[qA,seval,ph,h6,F,Int.lt_irrefl]
  exact fA ⟨rfl,by simp only[qA,seval];exact D,rfl⟩
def Ub(A:List Int)(v:T)(hA:A.length=11)(hv:IsSl v A.length (ints A)):ae pE 285 [qi 1,v] []=some (.sl (jX (fK A)) 11 false,[]):=by
 have hL:=fun fr lh sh h1 h5 h6 D=>aIs A v hA hv fr lh sh h1 h5 h6 D
 have F:=fun m keep fr lh sh h1 h5 h6 D=>aW.fzW (m:=m) (keep:=keep) (sh:=sh) (hL fr lh sh h1 h5 h6 D).2.1
 have U7:=fun keep fr lh sh h1 h5 h6 D=>aW.fzV (keep:=keep) (sh:=sh) (hL fr lh sh h1 h5 h6 D).2.1
 have ho:bj 11 (jX (fK A))= .sl (jX (fK A)) 11 false:=rfl
 rw[ho]at F U7
 rw[au akL (by simp[WK])]
 simp only[qA,seval,WK,CF,hL,U7,wD,ML]
def ahk(l:List (List Nat))(k:Nat)(hk:k<l.length):(l.map T.s)[k]? =some (.s l[k]):=by rw[List.getElem?_map,List.getElem?_eq_getElem hk];rfl
def aIt(f:Fl)(ks:List (List Nat))(hlen:ks.length≤1000)(g:Nat)(fr:Fr)(lh:aE ah)(sh:List ah)(D:aW lh (aa fr 12) 98 1 ks.length (ks.map T.s))(W:aa fr 14= .ptr .L 14 g 0)(X:aa fr 16= .b false)(Y:aa fr 17= qi 0)(I:ab lh 14=⟨g,.cells (uv f) 0 true⟩):
  Lp pE 134 vg fr lh sh (.ext 2) fun F l s=>aa F 16= .b (decide (f.ty∈ks))∧l=lh∧s=sh:=by
 unfold uv at I
 have K:=D.lenI
 refine bK yc (fun k F l s=>aa F 16= .b (decide (f.ty∈ks.take k))∧aa F 17= qi (k:Int)∧l=lh∧s=sh) ks.length ⟨by rw[X];simp,Y,rfl,rfl⟩ ?_ ?_
 ·rintro k F _ _ hk O ⟨AQ,DL,rfl,rfl⟩
  have U:(k:Int)<ks.length:=zV
  have Z:=aF (k:=k) zV
  rcases D with⟨h,_,_⟩|⟨g2,wm,D,o98,hl,hp⟩
  ·omega
  have Cd:=ahk ks k hk
  have iK:decide (f.ty∈ks.take (k+1))=(decide (f.ty∈ks.take k)||decide (ks[k]=f.ty)):=by
   rw[List.take_succ_eq_append_getElem hk]
   grind
  rw[D]at K
  cases V:decide (f.ty∈ks.take k) <;> rw[V]at AQ <;> simp only[qA,seval,gd,vg,O,D,W,AQ,DL,I,o98,K,U,hk,Cd,Z,iK,V,Bool.false_or,Bool.true_or]
 ·rintro F _ _ O ⟨AQ,DL,rfl,rfl⟩
  rw[List.take_length]at AQ
  simp only[qA,seval,gd,vg,O,AQ,DL,K,Int.lt_irrefl]
section
variable(t:Tt)(c:Ct)(zT aT fT a7 a8 a9 aw aA az:T)(hT:jV t zT aT fT)(hC:kR c a7 a8 a9 aw aA az)(ht:np t=0)(hc:eH c=0)
theorem aIu(hT:jV t zT aT fT)(ht:np t=0)(d:List (Int×Bool))(dT:T)(hd:kK d dT)(hlen:d.length≤100)(bw: ∀k∈d,lQ t.fl.length k.1=true)(E4:ah)(fr:Fr)(lh:aE ah)(sh:List ah)(h2:aa fr 2=dT)(h3:aa fr 3= .ptr .L 3 1 0)(h4:aa fr 4= .ptr .L 4 1 0)(O:aa fr 7= qi 0)(U:aa fr 8= qi 0)(V:aa fr 9= qi 0)(D:aa fr 10= qi 0)(F:aa fr 11= qi 1440)(h12:aa fr 12= .nilsl)(W:aa fr 13= qi 0)(X:ab lh 3=⟨1,.cells [zT,aT,fT] 0 true⟩)(Y:ab lh 4=E4):
  Lp pE 134 r9 fr lh sh (.ext 0) fun f l s=>aa f 7= qi (lq t.fl d d.length).lg∧aa f 8= qi (lq t.fl d d.length).hd∧aa f 9= qi (lq t.fl d d.length).bk∧aa f 10= qi (lq t.fl d d.length).lo∧aa f 11= qi (lq t.fl d d.length).so∧lenI (aa f 12)=some (qi ((lq t.fl d d.length).ks.length:Int))∧ab l 3=⟨1,.cells [zT,aT,fT] 0 true⟩∧ab l 4=E4∧s=sh:=by
 have dL:=hd.sl.lenI
 refine bK EN (fun k f l s=>aa f 7= qi (lq t.fl d k).lg∧aa f 8= qi (lq t.fl d k).hd∧aa f 9= qi (lq t.fl d k).bk∧aa f 10= qi (lq t.fl d k).lo∧aa f 11= qi (lq t.fl d k).so∧aa f 13= qi (k:Int)∧aW l (aa f 12) 98 1 (lq t.fl d k).ks.length ((lq t.fl d k).ks.map T.s)∧ab l 3=⟨1,.cells [zT,aT,fT] 0 true⟩∧ab l 4=E4∧s=sh) d.length ⟨O,U,V,D,F,W,by rw[h12];exact aW.nil,X,Y,rfl⟩ ?_ ?_
 ·rintro k Z l _ hk pr ⟨O,U,V,D,F,W,I,X,Y,rfl⟩
  have hk':(k:Int)<d.length:=zV
  have hw:=aF (k:=k) zV
  have kF:=(fB t ht).1
  obtain⟨rr,K⟩:=iH hd k hk
  obtain⟨i,hi,ei,ef,fok⟩:=eP kF bw hk
  obtain⟨fc,fc1,fc2⟩:=hT.f
  obtain⟨r2,IL⟩:=nq fc1 fc2 i hi
  rw[←ef]at IL
  obtain⟨c1,c2,c3,c4,c5,c6⟩:=Hr kF bw k zV
  have iK:lq t.fl d (k+1)=if k=0 then Hp (df t.fl d k) d[k].2 (lq t.fl d k)else T1 (df t.fl d (k-1)) (df t.fl d k) (Hp (df t.fl d k) d[k].2 (lq t.fl d k)):=by rw[lq,mB hk]
  have dZ:=fun(aN:aE ah) (aR:List ah) (e:ab aN 98=ab l 98)=>de (sh:=aR) (I.congr e) [.s (df t.fl d k).ty] rfl (bytes:=16) (alw zV) true
  have lE:=I.notS
  rw[ei]at K
  obtain⟨_,f1,f2,f3,f4⟩:=id fok
  obtain⟨G,hG⟩: ∃G,(ab l 14).g+1=G:=⟨_,rfl⟩
  have hD:=aIt (df t.fl d k) (lq t.fl d k).ks zV G
  unfold uv at hD
  generalize aCk:aa Z 12=v12 at I dZ lE
  generalize lq t.fl d k=s at*
  have w1:wr .i64 (s.lg+1)=s.lg+1:=aZ zV
  have w2:wr .i64 (s.hd+1)=s.hd+1:=aZ zV
  have w3:wr .i64 (s.bk+(df t.fl d k).ar)=s.bk+(df t.fl d k).ar:=aZ zV
  have w4:wr .i64 (s.bk+(df t.fl d k).ar-(df t.fl d k).dp)=s.bk+((df t.fl d k).ar-(df t.fl d k).dp):=by rw[aZ zV];omega
  have hks:adK (df t.fl d k).ty s.ks=if(df t.fl d k).ty∈s.ks then s.ks else s.ks++ [(df t.fl d k).ty]:=rfl
  by_cases An:k=0
  ·have K9: ¬(0:Int)<(k:Int):=zV
   rw[iK,if_pos An]
   generalize df t.fl d k=f at*
   generalize d[k].2=b at*
   cases b <;> by_cases hm:f.ty∈s.ks <;> simp only[qA,seval,gd,bg,CC,aH,repl,r9,yc,pr,h2,h3,O,U,V,D,F,W,aCk,X,Y,dL,hk',hw,K,IL,w1,w2,w3,w4,K9,hG,hD,dx,I,hm,hks,Hp,lE,dZ,List.length_append,List.map_append]
  ·have K9:(0:Int)<(k:Int):=zV
   have CV:=jw (k:=k) zV zV
   obtain⟨r3,Hl⟩:=iH hd (k-1) zV
   obtain⟨j,hj,ej,eg,gok⟩:=eP kF bw (k:=k-1) zV
   obtain⟨r4,hfb⟩:=nq fc1 fc2 j hj
   rw[←eg]at hfb
   rw[ej]at Hl
   have gap:=NX fok gok
   have w5:wr .i64 ((df t.fl d k).dp-(df t.fl d (k-1)).ar)=(df t.fl d k).dp-(df t.fl d (k-1)).ar:=aZ zV
   rw[iK,if_neg An]
   generalize df t.fl d k=f at*
   generalize df t.fl d (k-1)=g at*
   generalize d[k].2=b at*
   cases b <;> by_cases hm:f.ty∈s.ks <;> simp only[qA,seval,gd,bg,CC,aH,repl,r9,yc,pr,h2,h3,O,U,V,D,F,W,aCk,X,Y,dL,hk',hw,K,IL,w1,w2,w3,w4,K9,hG,hD,dx,I,hm,hks,T1,Hp,lE,dZ,List.length_append,List.map_append,nz,qo,Hl,hfb,CV,w5]
 ·rintro Z l _ pr ⟨O,U,V,D,F,W,I,X,Y,rfl⟩
  simp only[qA,seval,gd,r9,pr,h2,O,U,V,D,F,W,I.lenI,X,Y,dL,Int.lt_irrefl]
end
section
variable(t:Tt)(c:Ct)(zT aT fT a7 a8 a9 aw aA az:T)(hT:jV t zT aT fT)(hC:kR c a7 a8 a9 aw aA az)(ht:np t=0)(hc:eH c=0)(d:List (Int×Bool))(dT:T)(hd:kK d dT)(h1:1≤d.length)(hlen:d.length≤100)(bw: ∀k∈d,lQ t.fl.length k.1=true)
include hT ht hd h1 hlen bw
theorem FL:ae pE 204 [.agg [zT,aT,fT],dT] []=some (.agg (uv (df t.fl d 0)),[]):=by
 obtain⟨i,j,O,U,hi,V,D,W,F,X⟩:=aba t zT aT fT hT ht d dT hd h1 hlen bw
 obtain⟨⟨Y,Z,z2⟩,⟨ac,b1,b2⟩,⟨fc,I,K⟩⟩:=hT
 obtain⟨r3,hf⟩:=nq I K i hi
 rw[D]
 generalize t.fl[i]=f at*
 unfold uv
 rw[au Xx (by simp[Wf])]
 simp only[qA,seval,bg,aH,Wf,F,hf]
theorem Lk:ae pE 205 [.agg [zT,aT,fT],dT] []=some (.agg (uv (df t.fl d (d.length-1))),[]):=by
 obtain⟨i,j,W,X,hi,D,Y,F,Z,I⟩:=aba t zT aT fT hT ht d dT hd h1 hlen bw
 obtain⟨⟨zc,z1,z2⟩,⟨ac,b1,b2⟩,⟨fc,K,O⟩⟩:=hT
 obtain⟨r3,hf⟩:=nq K O j D
 rw[F]
 generalize t.fl[j]=f at*
 have U:=jw (k:=d.length) zV zV
 have V:=hd.sl.lenI
 unfold uv
 rw[au Xy (by simp[Wg])]
 simp only[qA,seval,bg,aH,Wg,V,U,I,hf]
include hC hc
def Ll:ae pE 123 [.agg [zT,aT,fT],.agg (aO c a7 a8 a9 aw aA az),dT] []=some (.agg [qi (pX c (df t.fl d 0)),qi (pY c (df t.fl d (d.length-1)))],[]):=by
 have O:=Aj t c zT aT fT a7 a8 a9 aw aA az hT hC
 have CA:=FL t zT aT fT hT ht d dT hd h1 hlen bw
 have D:=Lk t zT aT fT hT ht d dT hd h1 hlen bw
 obtain⟨_,_,_,_,F⟩:=eP (fB t ht).1 bw (k:=0) zV
 obtain⟨_,_,_,_,I⟩:=eP (fB t ht).1 bw (k:=d.length-1) zV
 obtain⟨_,_,U,V,_⟩:=K8 hc F I
 generalize df t.fl d 0=f at*
 generalize df t.fl d (d.length-1)=g at*
 generalize pX c f=S at*
 generalize pY c g=E at*
 have K:=hd.sl.froz
 unfold uv aO at*
 rw[au W1 (by simp[VE])]
 simp only[qA,seval,bg,aH,VE,CA,D,U,V,O,K,ajU,ajV,ajW,ajX]
def apC:ae pE 255 [.agg [zT,aT,fT],.agg (aO c a7 a8 a9 aw aA az),dT] []=some (.sl (jX (fK (aX t c d))) 11 false,[]):=by
 have W:=Aj t c zT aT fT a7 a8 a9 aw aA az hT hC
 have CA:=FL t zT aT fT hT ht d dT hd h1 hlen bw
 have D:=Lk t zT aT fT hT ht d dT hd h1 hlen bw
 have F:=Ll t c zT aT fT a7 a8 a9 aw aA az hT hC ht hc d dT hd h1 hlen bw
 obtain⟨i,hi,_,X,_⟩:=eP (fB t ht).1 bw (k:=0) zV
 obtain⟨j,Y,_,Z,_⟩:=eP (fB t ht).1 bw (k:=d.length-1) zV
 have I:=abk t c zT aT fT a7 a8 a9 aw aA az hT hC ht hc (df t.fl d 0) (df t.fl d (d.length-1)) (by rw[X];exact List.getElem_mem hi) (by rw[Z];exact List.getElem_mem Y)
 have hL:=fun E4 fr lh sh h2 h3 h4 h7 h8 h9 K O U ij o3 o4=>aIu t zT aT fT hT ht d dT hd hlen bw E4 fr lh sh h2 h3 h4 h7 h8 h9 K O U ij o3 o4
 have dk:=Ub (aX t c d) (.sl (ints (aX t c d)) 11 true) rfl (.inr ⟨true,rfl⟩)
 have V:=hd.sl.froz
 unfold aX at*
 generalize lq t.fl d d.length=s at*
 generalize df t.fl d 0=f at*
 generalize df t.fl d (d.length-1)=g at*
 unfold ints at dk
 simp only[List.map_cons,List.map_nil]at dk
 generalize jX _=AC at*
 unfold uv aO at*
 rw[au akz (by simp[WB])]
 simp only[qA,seval,repl,bg,aH,WB,EN,hL,CA,D,F,I,dk,W,V,ajU,ajV,ajW,ajX,ai4,ayu,aGa,aGb,azB]
end
section
variable(t:Tt)(c:Ct)(zT aT fT a7 a8 a9 aw aA az:T)(hT:jV t zT aT fT)(hC:kR c a7 a8 a9 aw aA az)(hN:CY c)(hL: ∀f∈t.fl,f.nu.length≤gJ)(d:List (Int×Bool))(dT:T)(hd:kK d dT)(hlen:d.length≤1000)
include hT hC hN hL hd hlen
def QF: ∃v,ae pE 202 [.agg [zT,aT,fT],.agg (aO c a7 a8 a9 aw aA az),dT] []=some (.tup [v,qi (if ee t c≠0 then ee t c else cL c t.fl d)],[])∧((if ee t c≠0 then ee t c else cL c t.fl d)=0→v= .sl (jX (fK (aX t c d))) 11 false)∧froz1 v=true:=by
 have O:=Aj t c zT aT fT a7 a8 a9 aw aA az hT hC
 have I:=ag2 t c zT aT fT a7 a8 a9 aw aA az hT hC hN hL d dT hd hlen
 have D:=hd.sl.froz
 by_cases h0:(if ee t c≠0 then ee t c else cL c t.fl d)=0
 ·have F:ee t c=0:=by
   by_cases h:ee t c=0
   ·exact h
   ·rw[if_pos h]at h0;exact h0
  have hs:cL c t.fl d=0:=by rw[if_neg (by simp[F])]at h0;exact h0
  obtain⟨ht,hc⟩:=um t c zT aT fT a7 a8 a9 aw aA az hT hC hN F
  obtain⟨h1,h6,bw,_⟩:=dM hs
  have K:=apC t c zT aT fT a7 a8 a9 aw aA az hT hC ht hc d dT hd h1 zV bw
  rw[h0]at I ⊢
  refine⟨_, ?_,fun _=>rfl,rfl⟩
  rw[au Xw (by simp[MH])]
  unfold aO at*
  simp only[qA,seval,MH,I,K,O,D,aky,azt]
 ·generalize (if ee t c≠0 then ee t c else cL c t.fl d)=e at*
  refine⟨.nilsl, ?_,fun h=>absurd h h0,rfl⟩
  rw[au Xw (by simp[MH])]
  unfold aO at*
  simp only[qA,seval,MH,I,h0,O,D,aky]
end
def Hy{l:List (List Nat×Int)}{v:T}(h:IsSl v l.length (jX l))(j:Nat)(D:j<l.length): ∃r,∀kk,iaV v (.i kk (j:Int)) 2=some (.vp (.s l[j].1:: qi l[j].2::r)):=by
 refine⟨jX (l.drop (j+1)),fun kk=> ?_⟩
 rw[h.ia (abl l) D]
 simp_all[jX,yu]
def aIv(s:List Nat)(l:List (List Nat×Int))(a:T)(D:IsSl a l.length (jX l))(hlen:l.length≤1000)(r:Int)(hr:r=ixA s (l.map Prod.fst) 0)(o:Out)(ho:o=if r<0 then .ext 0 else .ret)(fr:Fr)(lh:aE ah)(sh:List ah)(h0:aa fr 0=a)(h1:aa fr 1= .s s)(h5:aa fr 5= qi 0):
  qz 20 rO fr lh sh o∧
  ((¬r<0→aa (nM pE 20 rO fr lh sh) 4= qi r)∧je pE 20 rO fr lh sh=sh):=by
 refine eG (fun k st=> ∃(fr:Fr) (lh:aE ah),st=⟨fr,lh,sh⟩∧r=ixA s ((l.drop k).map Prod.fst) k∧aa fr 0=a∧aa fr 1= .s s∧aa fr 5= qi (k:Int))
  (fun O aN U=>(¬r<0→aa O 4= qi r)∧U=sh) _ l.length ?_ ?_ fr lh sh ⟨fr,lh,rfl,hr,h0,h1,h5⟩
 ·rintro k _ hk ⟨fr,lh,rfl,hr,h0,h1,h5⟩
  have F:(k:Int)<l.length:=zV
  have V:=aF (k:=k) zV
  obtain⟨W,I⟩:=Hy D k hk
  have K:=D.lenI
  rw[List.drop_eq_getElem_cons hk,List.map_cons,ixA]at hr
  generalize l[k]=y at*
  simp only[qB,seval,rO,h0,h1,h5,K,F,I,V]
  refine uc (fun h=> ?_) (fun h=> ?_)
  ·rw[if_pos h]at hr
   exact ue ⟨by rw[ho,if_neg zV],fun _=>(by simp only[qA,seval,hr]),rfl⟩
  ·rw[if_neg h]at hr
   exact cZ ⟨_,_,rfl,hr,by simp only[qA,seval,h0],by simp only[qA,seval,h1],by simp only[qA,seval]⟩
 ·rintro _ ⟨fr,lh,rfl,hr,h0,h1,h5⟩
  rw[List.drop_length,List.map_nil,ixA]at hr
  have K:=D.lenI
  simp only[qA,seval,rO,h0,h5,K,Int.lt_irrefl]
  grind [fA]
def QG(s:List Nat)(l:List (List Nat×Int))(a:T)(F:IsSl a l.length (jX l))(hlen:l.length≤1000):ae pE 105 [a,.s s] []=some (qi (ixA s (l.map Prod.fst) 0),[]):=by
 have hL:=fun fr lh sh h0 h1 h5=>aIv s l a F hlen _ rfl _ rfl fr lh sh h0 h1 h5
 have D:=C5 s (l.map Prod.fst) 0
 rw[au aiQ (by simp[RF])]
 generalize ixA s (l.map Prod.fst) 0=v at*
 by_cases h:v<0
 ·have e:=D h
  subst e
  simp only[qA,seval,RF,hL]
 ·simp only[h,if_false,not_false_eq_true,forall_const]at hL
  simp only[qA,seval,RF,hL]
def ahl(k n:Int)(h:C7 k n)(hk:k≠4):ae pE 104 [qi k,qi n] []=some (qi n,[]):=by
 rw[au aiP (by simp[Mz])]
 have hcl:bd n→ae pE 179 [qi n] []=some (qi n,[]):=by
  intro D
  have e:max (-1099511627776) (min 1099511627776 n)=n:=by unfold bd at D;omega
  rw[au Xq (by simp[MF])]
  simp only[qA,seval,MF,nz,qo,e]
 rcases h with⟨h1|h1,h2⟩|⟨h1,h2,h3⟩|⟨h1,h2⟩
 ·have hc:=hcl h2
  subst h1
  simp only[qA,seval,Mz,hc,BA]
 ·have hc:=hcl h2
  subst h1
  simp only[qA,seval,Mz,hc,BA]
 ·have hs:=yG n (by unfold zS;omega)
  have e:n%1440=n:=zV
  rw[e]at hs
  subst h1
  simp only[qA,seval,Mz,hs,Pd]
 ·grind
def Uc(s:List Nat):lB s≠4:=by
 grind [lB]
def Ud{l:List (List Nat)}(h:l.Nodup){i j:Nat}(hi:i<l.length)(D:j<l.length)(e:l[i]=l[j]):i=j:=by
 rcases Nat.lt_trichotomy i j with h1|h1|h1
 ·exact absurd e (List.pairwise_iff_getElem.1 h i j hi D h1)
 ·exact h1
 ·exact absurd e.symm (List.pairwise_iff_getElem.1 h j i D hi h1)
def Ue{s:List Nat}{i:Nat}(h:Ag 1 s=some i):i<11∧ixA s bC 0=(i:Int):=by
 have h1:bC[i]? =some s:=NY h
 obtain⟨hi,e⟩:=List.getElem?_eq_some_iff.1 h1
 obtain⟨j,D,e1,e2⟩:=Hw (k:=0) (List.mem_of_getElem? h1)
 have:j=i:=Ud Lm D hi (by rw[e2,e])
 exact⟨hi,by rw[e1,this];simp⟩
section
variable(l:Cs)(lT vT iT:T)(cl:List T)(A:List Int)(hl:IsSl lT l.length cl)(hcl:dc l cl)(hlen:l.length≤jA)(hv:IsSl vT l.length (ints (tE l l.length)))(hA:La A)(dk:IsSl iT 11 (jX (fK A)))
def aCl(y:Ex):Prop:= ∀k cs,iD y cs→y.nodes≤100000→y.wf=true→y.ty (Qt (He l) 1) 0=(k,0)→ae pE 57 [vT,lT,qi 1,iT,.agg cs] []=some (qi (y.val0 (qD (fI l) 1 A)),[])
include hl hv dk
theorem aIw(xs:List Ex)(ih: ∀y∈xs,aCl l lT vT iT A y)(a:T)(cc:List T)(U:IsSl a xs.length cc)(hx:cD xs cc)(hn:gm xs≤100000)(AR:Hb xs=true)(ts:List Int)(V:lC (Qt (He l) 1) 0 xs= .ok ts)(op num:Int)(s:List Nat)(g:Nat)(fr:Fr)(lh:aE ah)(sh:List ah)
  (h0:aa fr 0=vT) (h1:aa fr 1=lT) (h2:aa fr 2= qi 1) (h3:aa fr 3=iT) (F:aa fr 9= .ptr .L 9 g 0) (W:aa fr 13= .nilsl) (K:aa fr 14= qi 0) (X:ab lh 9=⟨g,.cells [qi op,qi num,.s s,a] 0 true⟩):
  qz 70 oY fr lh sh (.ext 0)∧
  (aW (iL pE 70 oY fr lh sh) (aa (nM pE 70 oY fr lh sh) 13) 63 1 xs.length (ints (fL (qD (fI l) 1 A) xs))∧ab (iL pE 70 oY fr lh sh) 9=ab lh 9∧je pE 70 oY fr lh sh=sh):=by
 refine cq (P:=fun bL aN aR=>aW aN (aa bL 13) 63 1 xs.length (ints (fL (qD (fI l) 1 A) xs))∧ab aN 9=ab lh 9∧aR=sh)
  (cY (fun k st=> ∃(fr:Fr) (O:aE ah),st=⟨fr,O,sh⟩∧aa fr 0=vT∧aa fr 1=lT∧aa fr 2= qi 1∧aa fr 3=iT∧aa fr 9= .ptr .L 9 g 0∧aa fr 14= qi (k:Int)∧ab O 9=ab lh 9∧
    aW O (aa fr 13) 63 1 k (ints (fL (qD (fI l) 1 A) (xs.take k)))) _ xs.length ?_ ?_ 0 _ (Nat.zero_le _) ⟨fr,lh,rfl,h0,h1,h2,h3,F,K,rfl,by rw[W];exact aW.nil⟩)
 ·rintro k _ Va ⟨fr,O,rfl,h0,h1,h2,h3,F,K,D,I⟩
  left
  rw[X]at D
  have Y:(k:Int)<xs.length:=zV
  have Yi:=gn xs
  have hyk:=mq (List.getElem_mem Va)
  have hw:=bn (k:=k) (iu zV)
  obtain⟨b,cb,rr,Z,fg,sH,hb⟩:=nO U hx k Va
  obtain⟨t,ht⟩:=QH V k Va
  have aC:=ih xs[k] (List.getElem_mem Va) t _ hb zV (AE.1 AR _ (List.getElem_mem Va)) ht
  have dZ:=abo I (iu zV) (sh:=sh) (qi (xs[k].val0 (qD (fI l) 1 A))) true
  have iK:fL (qD (fI l) 1 A) (xs.take (k+1))=fL (qD (fI l) 1 A) (xs.take k)++ [xs[k].val0 (qD (fI l) 1 A)]:=by
   grind [List.take_succ_eq_append_getElem,yL]
  generalize xs[k].val0 (qD (fI l) 1 A)=q at aC dZ iK
  generalize W:aa fr 13=v13 at I dZ
  simp only[qA,seval,repl,oY,h0,h1,h2,h3,F,W,K,D,U.lenI,Y,Z,hw,aC,WT,fg.froz1,hv.froz,hl.froz,dk.froz,I.notS,dZ.1]
  refine⟨_,rfl,_,_,rfl, ?_, ?_, ?_, ?_, ?_, ?_, ?_, ?_⟩
  all_goals first|(simp only[qA,seval,h0,h1,h2,h3,F];done)|skip
  ·grind
  ·simp only[qA,seval]
   grind [Ln]
 ·rintro _ ⟨fr,O,rfl,h0,h1,h2,h3,F,K,D,I⟩
  rw[X]at D
  rw[List.take_length]at I
  simp only[qA,seval,oY,F,K,D,U.lenI,Int.lt_irrefl]
  refine⟨_,_,tS,rfl,rfl, ?_,by rw[D,X],rfl⟩
  simp only[qA,seval]
  exact I
include hcl hlen hA
def apD(x:Ex):aCl l lT vT iT A x:=by
 induction x using Ex.ind with
 |h x ih=>
  intro k cs hx hn AR ht
  obtain⟨a,cc,rfl,ha,Vb⟩:=hx.cells
  obtain⟨h1,h2,D,Ej,tF,Ae⟩:=wY AR
  have hnd:=x.nodes_eq
  rw[au am1 (by simp[c57]),Ex.val0_eq]
  by_cases h6:x.op=6
  ·rw[if_pos h6]
   have D:=KA 1 x.name
   unfold rh at D
   by_cases F:dI 1 x.name=0
   ·rw[if_pos F]at D
    rw[Ex.ty_eq,if_pos h6,if_neg (by simp[ki])]at ht
    unfold Qt at ht
    rw[if_neg (by simp[F])]at ht
    rw[←yC]at ht
    obtain⟨i,mF,K,Lo,_⟩:=wZ (Nat.le_refl _) ht
    have O:=ahm l x.name lT cl hl hcl hlen
    rw[FM Lo]at O
    have e1:=fun kk=>Dc (ts:=tE l l.length) (by rw[lR];exact hv) (k:=i) (by rw[lR];exact K) kk
    have e2:qD (fI l) 1 A x.name=(tE l l.length)[i]'(by rw[lR];exact K):=by
     unfold qD
     rw[(mC 1 x.name).2 F]
     simp_all[VX,vxk,abp,List.take_length,lR]
    rw[e2]
    simp only[qA,seval,c57,h6,F,D,ES,O,ayj,hl.froz,e1]
   ·rw[if_neg F]at D
    cases Y:Ag 1 x.name with
    |none=>exact absurd ((mC 1 x.name).1 Y) F
    |some i=>
     obtain⟨hi,TH⟩:=Ue Y
     have Au:(fK A).length=11:=by unfold fK;rw[List.length_zip,hA.1];rfl
     have Z:(fK A).map Prod.fst=bC:=by unfold fK;exact List.map_fst_zip (by rw[hA.1];exact Nat.le_refl _)
     have U:=QG x.name (fK A) iT (by rw[Au];exact dk) zV
     rw[Z,TH]at U
     obtain⟨rr,V⟩:=Hy (l:=fK A) (v:=iT) (by rw[Au];exact dk) i zV
     have yh:(fK A)[i].2=A.getD i 0:=by
      grind [fK]
     rw[yh]at V
     have K:=hA.2 i x.name (NY Y)
     have DM:dI 1 x.name=lB x.name:=rfl
     rw[DM]at D F
     have aIx:=ahl _ _ K (Uc _)
     have e2:qD (fI l) 1 A x.name=A.getD i 0:=by unfold qD;rw[Y]
     rw[e2]
     generalize A.getD i 0=q at*
     generalize lB x.name=kk at*
     have aIy:=dk.froz
     simp only[qA,seval,c57,h6,D,ES,U,aiR,V,aIx,ayi,aIy]
  ·rw[if_neg h6]
   obtain⟨ts,I,hr,hk⟩:=xb ht h6
   have hL:=fun fr lh sh h0 h1 h2 h3 h9 ij cV o9=>aIw l lT vT iT cl A hl hv dk x.args (fun y hy=>ih y hy) a cc ha Vb zV Ae ts I x.op x.num x.name 1 fr lh sh h0 h1 h2 h3 h9 ij cV o9
   have hO:=fun fr lh sh h0 h1 h2 h3 h9 ij cV o9=>aW.fzV (sh:=sh) (keep:=false) (hL fr lh sh h0 h1 h2 h3 h9 ij cV o9).2.1
   have Au:=gn x.args
   have K:=Lq (aa3 l hA) (scope:=0) (fun s=>ki s) Ae I
   have E8:=xc I
   have Lr:(fL (qD (fI l) 1 A) x.args).length=x.args.length:=by rw[yL,List.length_map]
   by_cases h5:x.op≤5
   ·have ll:x.op=1∨x.op=2∨x.op=3∨x.op=4∨x.op=5:=zV
    have W:=abq x.op x.num ll (bj x.args.length (ints (fL (qD (fI l) 1 A) x.args)))
    have X:(if x.op=1∨x.op=2∨x.op=3 then x.num else if x.op=4 then 1 else if x.op=5 then 0 else DF x.op (fL (qD (fI l) 1 A) x.args))=(if x.op=1∨x.op=2∨x.op=3 then x.num else if x.op=4 then 1 else 0):=by
     grind
    rw[X]
    generalize (if x.op=1∨x.op=2∨x.op=3 then x.num else if x.op=4 then 1 else 0)=q at W ⊢
    simp only[qA,seval,c57,Jb,h6,hL,hO,W,aiT]
   ·have h7:7≤x.op:=zV
    have dZ:=abr K h7 h2 (by rw[E8];exact D) hr hk
    have W:=Uf x.op x.num (fL (qD (fI l) 1 A) x.args) (bj x.args.length (ints (fL (qD (fI l) 1 A) x.args))) (by rw[Lr];exact dX (fun h0=>by rw[h0]at Lr;rw[List.length_eq_zero_iff.1 Lr];rfl)) (by rw[Lr];exact iu zV) h7 h2 (by rw[Lr];exact D) dZ.1
    rw[if_neg zV,if_neg zV,if_neg zV]
    generalize DF x.op (fL (qD (fI l) 1 A) x.args)=q at W ⊢
    simp only[qA,seval,c57,Jb,h6,hL,hO,W,aiT]
end
def mD(c:Ct)(A:List Int)(k:Nat):List (List Nat):=((c.ru.take k).filter fun u=>u.sc==1&&decide (pZ c.cs A u.x=0)).map Ru.nm
def Ek(l:List (List Nat)):List T:=l.flatMap fun s=> [qi 1,qi 0,.s s]
theorem abt(l:List (List Nat))(s:List Nat):Ek l++ [qi 1,qi 0,.s s]=Ek (l++ [s]):=by unfold Ek;rw[List.flatMap_append];rfl
def Ug(c:Ct)(A:List Int){k:Nat}(hk:k<c.ru.length):mD c A (k+1)=if c.ru[k].sc=1∧pZ c.cs A c.ru[k].x=0 then mD c A k++ [c.ru[k].nm]else mD c A k:=by
 unfold mD
 rw[List.take_succ_eq_append_getElem hk,List.filter_append,List.map_append]
 by_cases h:c.ru[k].sc=1∧pZ c.cs A c.ru[k].x=0
 ·rw[if_pos h];simp[h.1,h.2]
 ·rw[if_neg h]
  have:(c.ru[k].sc==1&&decide (pZ c.cs A c.ru[k].x=0))=false:=by
   cases D:(c.ru[k].sc==1&&decide (pZ c.cs A c.ru[k].x=0))with
   |false=>rfl
   |true=>exact absurd (by simpa using D) h
  simp[this]
def ahn(c:Ct)(A:List Int)(k:Nat):(mD c A k).length≤k:=by
 unfold mD
 rw[List.length_map]
 exact Nat.le_trans (List.length_filter_le _ _) (by rw[List.length_take];omega)
def KI.ty0{l:Cs}{x:Ex}(h:KI l 1 x):x.nodes≤100000∧x.wf=true∧ ∃k,x.ty (Qt (He l) 1) 0=(k,0):=by
 obtain⟨_,hv,k,hk⟩:=h
 have:=(iS hv).1
 exact⟨by omega,iG hv,k,by rw[←abu];exact hk⟩
def apE{t:Tt}{c:Ct}(hc:eH c=0){A:List Int}(hA:La A):(mD c A c.ru.length= []↔tD A (sJ c)=true):=by
 have h1:=(lP c hc).1
 have D: ∀l:List Ru,(∀u∈l,KI c.cs u.sc u.x)→(((l.filter fun u=>u.sc==1&&decide (pZ c.cs A u.x=0)).map Ru.nm= [])↔tD A ((l.filter fun u=>u.sc==1).map fun u=>(u.nm,comp (fI c.cs) u.sc u.x))=true):=by
  intro l
  induction l with
  |nil=>intro _;simp[tD]
  |cons u l ih=>
   intro h
   have ih:=ih fun v hv=>h v (by simp[hv])
   by_cases hs:u.sc=1
   ·have hx:=h u yv
    rw[hs]at hx
    have hv:=(T4 hA hx).2.1
    have e1:((u::l).filter fun u=>u.sc==1).map (fun u=>(u.nm,comp (fI c.cs) u.sc u.x))=(u.nm,comp (fI c.cs) 1 u.x)::(l.filter fun u=>u.sc==1).map fun u=>(u.nm,comp (fI c.cs) u.sc u.x):=by simp[hs]
    rw[e1,show tD A ((u.nm,comp (fI c.cs) 1 u.x)::(l.filter fun u=>u.sc==1).map fun u=>(u.nm,comp (fI c.cs) u.sc u.x))=(decide ((comp (fI c.cs) 1 u.x).val A≠0)&&tD A ((l.filter fun u=>u.sc==1).map fun u=>(u.nm,comp (fI c.cs) u.sc u.x)))from rfl,hv]
    by_cases F:pZ c.cs A u.x=0
    ·simp[hs,F]
    ·have e2:((u::l).filter fun u=>u.sc==1&&decide (pZ c.cs A u.x=0))=l.filter fun u=>u.sc==1&&decide (pZ c.cs A u.x=0):=by simp[F]
     rw[e2,ih]
     simp[F]
   ·have e1:((u::l).filter fun u=>u.sc==1)=l.filter fun u=>u.sc==1:=by simp[hs]
    have e2:((u::l).filter fun u=>u.sc==1&&decide (pZ c.cs A u.x=0))=l.filter fun u=>u.sc==1&&decide (pZ c.cs A u.x=0):=by simp[hs]
    rw[e1,e2,ih]
 have:=D c.ru h1
 unfold mD sJ uD
 rw[List.take_length]
 exact this
section
variable(c:Ct)(a7 a8 a9 aw aA az vT iT:T)(A:List Int)(hC:kR c a7 a8 a9 aw aA az)(hS:rk c)(hc:eH c=0)(hv:IsSl vT c.cs.length (ints (tE c.cs c.cs.length)))(hA:La A)(dk:IsSl iT 11 (jX (fK A)))
include hC hc hv hA dk
theorem N8{x:Ex}(hx:KI c.cs 1 x){cs:List T}(h:iD x cs):ae pE 57 [vT,a7,qi 1,iT,.agg cs] []=some (qi (pZ c.cs A x),[]):=by
 obtain⟨⟨c7,D,F⟩,_⟩:=hC
 obtain⟨I,K,k,O⟩:=hx.ty0
 have:=(lP c hc).2.2.2.2.2.2
 exact apD c.cs a7 vT iT c7 A D F (iu zV) hv hA dk x k cs h I K O
theorem aIz(fr:Fr)(lh:aE ah)(sh:List ah)(h1:aa fr 1= qi 1)(h2:aa fr 2= qi 0)(h3:aa fr 3=iT)(h4:aa fr 4= .ptr .L 4 1 0)(h9:aa fr 9= .nilsl)(D:aa fr 10=vT)(F:aa fr 11= qi 0)(I:ab lh 4=⟨1,.cells (aO c a7 a8 a9 aw aA az) 0 true⟩):
  qz 52 lH fr lh sh (.ext 0)∧
  (aW (iL pE 52 lH fr lh sh) (aa (nM pE 52 lH fr lh sh) 9) 50 3 (mD c A c.ru.length).length (Ek (mD c A c.ru.length))∧je pE 52 lH fr lh sh=sh):=by
 have hC':=hC
 obtain⟨⟨c7,i7,j7⟩,⟨c8,W,j8⟩,⟨c9,i9,j9⟩,⟨uF,i10,Ah⟩,⟨IC,i11,DJ⟩,⟨Mq,i12,FA⟩⟩:=hC'
 obtain⟨iR,hl,_⟩:=lP c hc
 unfold aO at I
 refine eG (fun k st=> ∃(fr:Fr) (lh:aE ah),st=⟨fr,lh,sh⟩∧aa fr 1= qi 1∧aa fr 2= qi 0∧aa fr 3=iT∧aa fr 4= .ptr .L 4 1 0∧aa fr 10=vT∧aa fr 11= qi (k:Int)∧ab lh 4=⟨1,.cells [qi c.rp,qi c.rl,qi c.cn,qi c.st,qi c.ly,qi c.nf,qi c.nt,a7,a8,a9,aw,aA,az,qi c.gu] 0 true⟩∧aW lh (aa fr 9) 50 3 (mD c A k).length (Ek (mD c A k)))
  (fun bL aN X=>aW aN (aa bL 9) 50 3 (mD c A c.ru.length).length (Ek (mD c A c.ru.length))∧X=sh) _ c.ru.length ?_ ?_ fr lh sh ⟨fr,lh,rfl,h1,h2,h3,h4,D,F,I,by rw[h9];exact aW.nil⟩
 ·rintro k _ hk ⟨fr,lh,rfl,h1,h2,h3,h4,D,F,I,O⟩
  have U:(k:Int)<c.ru.length:=zV
  have hw:=aF (k:=k) zV
  obtain⟨b,cb,rr,V,fg,hb⟩:=zR W j8 k hk
  have hx:=iR _ (List.getElem_mem hk)
  have sV:=ahn c A k
  have iK:=Ug c A hk
  have aC:=fun e:c.ru[k].sc=1=>N8 c a7 a8 a9 aw aA az vT iT A hC hc hv hA dk (e▸hx) hb
  rw[iK]
  generalize pZ c.cs A c.ru[k].x=q at*
  generalize c.ru[k]=u at*
  have dZ:=fun(aN:aE ah) (X:List ah) (e:ab aN 50=ab lh 50)=>(de (sh:=X) (O.congr e) [qi 1,qi 0,.s u.nm] rfl (bytes:=32) (by unfold roomy;omega) true)
  have Y:=fun(aN:aE ah) (X:List ah) (e:ab aN 50=ab lh 50)=>(dZ aN X e).1
  have lE:=O.notS
  generalize K:aa fr 9=v9 at O dZ Y lE
  have hz:=dk.froz
  have Z:=hv.froz
  by_cases hs:u.sc=1
  ·have aC:=aC hs
   by_cases hq:q=0
   ·rw[if_pos ⟨hs,hq⟩]
    simp only[qA,seval,repl,lH,h1,h2,h3,h4,K,D,F,I,W.lenI,U,hw,V,hs,aC,hq,hz,Z,i7.froz,fg.froz1,lE,Y,WT]
    exact cZ ⟨_,_,rfl,by simp only[qA,seval,h1],by simp only[qA,seval,h2],by simp only[qA,seval,h3],by simp only[qA,seval,h4],by simp only[qA,seval,D],by simp only[qA,seval],by rw[(dZ _ _ yk).2.2 4 zz];simp only[qA,seval,I],by simp only[qA,seval];rw[List.length_append,←abt];exact(dZ _ _ yk).2.1⟩
   ·rw[if_neg (fun h=>hq h.2)]
    simp only[qA,seval,repl,lH,h1,h2,h3,h4,K,D,F,I,W.lenI,U,hw,V,hs,aC,hq,hz,Z,i7.froz,fg.froz1,WT]
    exact cZ ⟨_,_,rfl,by simp only[qA,seval,h1],by simp only[qA,seval,h2],by simp only[qA,seval,h3],by simp only[qA,seval,h4],by simp only[qA,seval,D],by simp only[qA,seval],by simp only[qA,seval,I],by simp only[qA,seval,K];exact O.congr yk⟩
  ·rw[if_neg (fun h=>hs h.1)]
   simp only[qA,seval,repl,lH,h1,h2,h4,K,F,I,W.lenI,U,hw,V,hs]
   exact cZ ⟨_,_,rfl,by simp only[qA,seval,h1],by simp only[qA,seval,h2],by simp only[qA,seval,h3],by simp only[qA,seval,h4],by simp only[qA,seval,D],by simp only[qA,seval],by simp only[qA,seval,I],by simp only[qA,seval,K];exact O.congr yk⟩
 ·rintro _ ⟨fr,lh,rfl,h1,h2,h3,h4,D,F,I,O⟩
  simp only[qA,seval,lH,h4,F,I,W.lenI,Int.lt_irrefl]
  exact fA ⟨rfl,by simp only[qA,seval];exact O,rfl⟩
end
def ctZ{c:Ct}{a7 a8 a9 aw aA az:T}(hC:kR c a7 a8 a9 aw aA az):(froz1 a7=true∧froz1 a8=true∧froz1 a9=true∧froz1 aw=true∧froz1 aA=true∧froz1 az=true)∧cellsOf a7= [a7]∧cellsOf a8= [a8]∧cellsOf a9= [a9]∧cellsOf aw= [aw]∧cellsOf aA= [aA]∧cellsOf az= [az]∧froz a7=true:=by
 obtain⟨⟨_,K,_⟩,⟨_,O,_⟩,⟨_,U,_⟩,⟨_,D,_⟩,⟨_,F,_⟩,⟨_,I,_⟩⟩:=hC
 exact⟨⟨K.froz1,O.froz1,U.froz1,D.froz1,F.froz1,I.froz1⟩,K.cells,O.cells,U.cells,D.cells,F.cells,I.cells,K.froz⟩
section
variable(c:Ct)(a7 a8 a9 aw aA az iT:T)(A:List Int)(hC:kR c a7 a8 a9 aw aA az)(hS:rk c)(hc:eH c=0)(hA:La A)(dk:IsSl iT 11 (jX (fK A)))
include hC hS hc
theorem Hz:ae pE 56 [a7] []=some (bj c.cs.length (ints (tE c.cs c.cs.length)),[])∧IsSl (bj c.cs.length (ints (tE c.cs c.cs.length))) c.cs.length (ints (tE c.cs c.cs.length)):=by
 obtain⟨⟨c7,D,F⟩,_⟩:=hC
 have:=(lP c hc).2.2.2.2.2.2
 refine⟨Uh c.cs a7 c7 D F hS.b7,dX fun h=> ?_⟩
 grind [ints,List.length_eq_zero_iff.1,lR]
include hA dk
def aho:ae pE 203 [.agg (aO c a7 a8 a9 aw aA az),qi 1,qi 0,iT] []=some (bj (mD c A c.ru.length).length (Ek (mD c A c.ru.length)),[]):=by
 obtain⟨hk,hv⟩:=Hz c a7 a8 a9 aw aA az hC hS hc
 have hL:=fun fr lh sh h1 h2 h3 h4 I D F K=>aIz c a7 a8 a9 aw aA az _ iT A hC hc hv hA dk fr lh sh h1 h2 h3 h4 I D F K
 have U7:=fun keep fr lh sh h1 h2 h3 h4 I D F K=>aW.fzV (keep:=keep) (sh:=sh) (hL fr lh sh h1 h2 h3 h4 I D F K).2.1
 have O:=ctZ hC
 generalize bj c.cs.length (ints (tE c.cs c.cs.length))=vT at*
 unfold aO at*
 rw[au ajT (by simp[We])]
 simp only[qA,seval,We,hk,O,hL,U7,wD,am0]
omit hS in
theorem aIB(vT:T)(hv:IsSl vT c.cs.length (ints (tE c.cs c.cs.length)))(fr:Fr)(lh:aE ah)(sh:List ah)(h1:aa fr 1= qi 1)(h2:aa fr 2=iT)(h3:aa fr 3= .ptr .L 3 1 0)(D:aa fr 7= qi 0)(F:aa fr 8=vT)(I:aa fr 9= qi 0)(U:ab lh 3=⟨1,.cells (aO c a7 a8 a9 aw aA az) 0 true⟩):
  qz 43 pg fr lh sh (.ext 0)∧
  (aa (nM pE 43 pg fr lh sh) 7= qi (fJ A (Hu c))∧je pE 43 pg fr lh sh=sh):=by
 have W:=hC
 obtain⟨⟨c7,i7,j7⟩,⟨c8,i8,j8⟩,⟨c9,V,j9⟩,⟨uF,i10,Ah⟩,⟨IC,i11,DJ⟩,⟨Mq,i12,FA⟩⟩:=W
 obtain⟨_,_,iR,hl,_⟩:=lP c hc
 unfold aO at U
 unfold Hu
 refine eG (fun k st=> ∃(fr:Fr),st=⟨fr,lh,sh⟩∧aa fr 1= qi 1∧aa fr 2=iT∧aa fr 3= .ptr .L 3 1 0∧aa fr 7= qi (fJ A (tC c 1 k))∧aa fr 8=vT∧aa fr 9= qi (k:Int))
  (fun bL aN aR=>aa bL 7= qi (fJ A (tC c 1 c.co.length))∧aR=sh) _ c.co.length ?_ ?_ fr lh sh ⟨fr,rfl,h1,h2,h3,D,F,I⟩
 ·rintro k _ hk ⟨fr,rfl,h1,h2,h3,D,F,I⟩
  have K:(k:Int)<c.co.length:=zV
  have Z:=aF (k:=k) zV
  obtain⟨b,cb,rr,O,fg,hb⟩:=CS V j9 k hk
  have hx:=iR _ (List.getElem_mem hk)
  have iK:fJ A (tC c 1 (k+1))=if c.co[k].sc=1 then wr .i64 (fJ A (tC c 1 k)+pZ c.cs A c.co[k].x)else fJ A (tC c 1 k):=by
   rw[wL c 1 hk]
   by_cases e:c.co[k].sc=1
   ·rw[if_pos e,if_pos e]
    unfold fJ
    rw[List.map_append,Lb,List.map_cons,List.map_nil,tb,tb]
    rw[e,(T4 hA (e▸hx)).2.1]
   ·grind
  have X:=fun e:c.co[k].sc=1=>N8 c a7 a8 a9 aw aA az vT iT A hC hc hv hA dk (e▸hx) hb
  rw[iK]
  generalize pZ c.cs A c.co[k].x=q at*
  generalize fJ A (tC c 1 k)=p at*
  generalize c.co[k]=u at*
  have hz:=dk.froz
  have Y:=hv.froz
  by_cases hs:u.sc=1
  ·have X:=X hs
   rw[if_pos hs]
   simp only[qA,seval,bg,aH,pg,h1,h2,h3,D,F,I,U,V.lenI,K,Z,O,hs,X,hz,Y,i7.froz,fg.froz1,WT,axK]
   exact cZ ⟨_,rfl,by simp only[qA,seval,h1],by simp only[qA,seval,h2],by simp only[qA,seval,h3],by simp only[qA,seval],by simp only[qA,seval,F],by simp only[qA,seval]⟩
  ·rw[if_neg hs]
   simp only[qA,seval,bg,aH,pg,h1,h2,h3,D,F,I,U,V.lenI,K,Z,O,hs]
   exact cZ ⟨_,rfl,by simp only[qA,seval,h1],by simp only[qA,seval,h2],by simp only[qA,seval,h3],by simp only[qA,seval,D],by simp only[qA,seval,F],by simp only[qA,seval]⟩
 ·rintro _ ⟨fr,rfl,h1,h2,h3,D,F,I⟩
  simp only[qA,seval,pg,h3,I,U,V.lenI,Int.lt_irrefl]
  exact fA ⟨rfl,by simp only[qA,seval,D],rfl⟩
def abv:ae pE 206 [.agg (aO c a7 a8 a9 aw aA az),qi 1,iT] []=some (qi (fJ A (Hu c)),[]):=by
 obtain⟨hk,hv⟩:=Hz c a7 a8 a9 aw aA az hC hS hc
 have hL:=fun fr lh sh h1 h2 h3 D F I K=>aIB c a7 a8 a9 aw aA az iT A hC hc hA dk _ hv fr lh sh h1 h2 h3 D F I K
 have O:=ctZ hC
 generalize bj c.cs.length (ints (tE c.cs c.cs.length))=vT at*
 generalize fJ A (Hu c)=q at*
 unfold aO at*
 rw[au ajY (by simp[Wh])]
 simp only[qA,seval,Wh,hk,O,hL,am0]
def N9:ae pE 207 [.agg (aO c a7 a8 a9 aw aA az),iT] []=some (qi (zW A (crS c)),[]):=by
 obtain⟨hk,hv⟩:=Hz c a7 a8 a9 aw aA az hC hS hc
 have hz:=ctZ hC
 have F:=dk.froz
 have U:=hv.froz
 have V:=hC
 obtain⟨⟨c7,i7,j7⟩,⟨c8,i8,j8⟩,⟨c9,i9,j9⟩,⟨uF,I,Ah⟩,⟨IC,i11,DJ⟩,⟨Mq,i12,FA⟩⟩:=V
 have K:=I.lenI
 have iR:=(lP c hc).2.2.2.2.1
 rw[au ajZ (by simp[Sa])]
 unfold crS TN
 rw[List.take_length]
 by_cases Z:c.cr= []
 ·rw[Z]at K ⊢
  have K:lenI aw=some (qi 0):=K
  have Au:(fK A).length=11:=by unfold fK;rw[List.length_zip,hA.1];rfl
  have W:(fK A).map Prod.fst=bC:=by unfold fK;exact List.map_fst_zip (by rw[hA.1];exact Nat.le_refl _)
  have O:=QG [98,108,111,99,107] (fK A) iT (by rw[Au];exact dk) zV
  rw[W,show ixA [98,108,111,99,107] bC 0=3 by decide]at O
  obtain⟨rr,D⟩:=Hy (l:=fK A) (v:=iT) (by rw[Au];exact dk) 3 zV
  have yh:(fK A)[3].2=A.getD 3 0:=by
   grind [fK]
  rw[yh]at D
  have D: ∀kk,iaV iT (.i kk 3) 2=_:=D
  unfold zW aO
  simp only[List.map_nil]
  simp only[qA,seval,Sa,K,O,D,F,aiR]
 ·obtain⟨x,l,X⟩: ∃x l,c.cr=x::l:=List.exists_cons_of_ne_nil Z
  have h0:0<c.cr.length:=by rw[X];simp
  obtain⟨b,cb,rr,D,fg,sH,hb⟩:=nO I Ah 0 h0
  have hx:=iR _ (List.getElem_mem h0)
  have aC:=N8 c a7 a8 a9 aw aA az _ iT A hC hc hv hA dk hx hb
  have QI:=(T4 hA hx).2.1
  have D: ∀kk,iaV aw (.i kk 0) 4=_:=D
  have Y: ¬(c.cr.length:Int)=0:=zV
  have e:zW A (c.cr.map fun u=>([],comp (fI c.cs) 1 u))=pZ c.cs A c.cr[0]:=by
   grind [zW]
  rw[e]
  generalize pZ c.cs A c.cr[0]=q at*
  generalize c.cr[0]=y at*
  generalize bj c.cs.length (ints (tE c.cs c.cs.length))=vT at*
  unfold aO
  simp only[qA,seval,bg,aH,Sa,K,Y,hk,D,aC,hz,F,U,fg.froz1,am0,aGc,WT,axK]
end
def dE(t:Tt)(c:Ct)(d:List (Int×Bool)):Int:=if ee t c≠0 then ee t c else cL c t.fl d
theorem ahp(t:Tt)(c:Ct)(d:List (Int×Bool)):T6 t c d=if dE t c d≠0 then(T5,dE t c d)else if jy t c d=true then(cF t c d,0)else(T5,15):=by
 grind [T6,apx,dE]
section
variable(t:Tt)(c:Ct)(zT aT fT a7 a8 a9 aw aA az:T)(hT:jV t zT aT fT)(hC:kR c a7 a8 a9 aw aA az)(hN:CY c)(hL: ∀f∈t.fl,f.nu.length≤gJ)(d:List (Int×Bool))(dT:T)(hd:kK d dT)(hlen:d.length≤1000)
include hT hC hN hL hd hlen
def abw(h:dE t c d=0):np t=0∧eH c=0∧rk c∧1≤d.length∧d.length≤6∧(∀k∈d,lQ t.fl.length k.1=true):=by
 have _:=hL;have _:=hd;have _:=hlen
 unfold dE at h
 by_cases hk:ee t c=0
 ·rw[if_neg (by simp[hk])]at h
  obtain⟨ht,hc⟩:=um t c zT aT fT a7 a8 a9 aw aA az hT hC hN hk
  obtain⟨h1,h2,h3,_⟩:=dM h
  exact⟨ht,hc,hN.sm (FB c a7 a8 a9 aw aA az hC hc),h1,h2,h3⟩
 ·grind
def ahq: ∃v,ae pE 122 [.agg [zT,aT,fT],.agg (aO c a7 a8 a9 aw aA az),dT] []=some (.tup [v,qi (dE t c d)],[])∧froz1 v=true∧(dE t c d=0→ ∃n:Nat,lenI v=some (qi (n:Int))∧(n=0↔jy t c d=true)):=by
 have I:=Aj t c zT aT fT a7 a8 a9 aw aA az hT hC
 have D:=hd.sl.froz
 obtain⟨w,h1,h2,h3⟩:=QF t c zT aT fT a7 a8 a9 aw aA az hT hC hN hL d dT hd hlen
 rw[show(if ee t c≠0 then ee t c else cL c t.fl d)=dE t c d from rfl]at h1 h2
 by_cases h0:dE t c d=0
 ·obtain⟨ht,hc,hS,K,V,O⟩:=abw t c zT aT fT a7 a8 a9 aw aA az hT hC hN hL d dT hd hlen h0
  have hA:=wV (t:=t) (c:=c) ht hc K zV O
  have hv:=aho c a7 a8 a9 aw aA az (.sl (jX (fK (aX t c d))) 11 false) (aX t c d) hC hS hc hA (.inr ⟨false,rfl⟩)
  have U:=apE (t:=t) hc hA
  rw[h2 h0]at h1
  rw[h0]at h1 ⊢
  refine⟨bj (mD c (aX t c d) c.ru.length).length (Ek (mD c (aX t c d) c.ru.length)), ?_, ?_,fun _=>⟨(mD c (aX t c d) c.ru.length).length, ?_, ?_⟩⟩
  ·have F:froz1 (bj (mD c (aX t c d) c.ru.length).length (Ek (mD c (aX t c d) c.ru.length)))=true:=by unfold bj;split <;> rfl
   rw[au WZ (by simp[MB])]
   generalize bj (mD c (aX t c d) c.ru.length).length (Ek (mD c (aX t c d) c.ru.length))=vo at*
   unfold aO at*
   simp only[qA,seval,MB,h1,hv,I,D,F,Ph,ay7]
  ·unfold bj;split <;> rfl
  ·unfold bj;split
   ·rename_i e;rw[e];rfl
   ·rfl
  ·rw[List.length_eq_zero_iff,U];exact Iff.rfl
 ·refine⟨.nilsl, ?_,rfl,fun h=>absurd h h0⟩
  generalize dE t c d=e at*
  rw[au WZ (by simp[MB])]
  unfold aO at*
  simp only[qA,seval,MB,h1,h0,I,D,Ph]
def apF(h0:dE t c d=0):ae pE 124 [.agg [zT,aT,fT],.agg (aO c a7 a8 a9 aw aA az),dT] []=some (.tup [qi (fJ (aX t c d) (Hu c)),qi 0],[])∧ae pE 125 [.agg [zT,aT,fT],.agg (aO c a7 a8 a9 aw aA az),dT] []=some (.tup [qi (zW (aX t c d) (crS c)),qi 0],[]):=by
 have F:=Aj t c zT aT fT a7 a8 a9 aw aA az hT hC
 have D:=hd.sl.froz
 obtain⟨w,h1,h2,h3⟩:=QF t c zT aT fT a7 a8 a9 aw aA az hT hC hN hL d dT hd hlen
 rw[show(if ee t c≠0 then ee t c else cL c t.fl d)=dE t c d from rfl]at h1 h2
 obtain⟨ht,hc,hS,I,O,K⟩:=abw t c zT aT fT a7 a8 a9 aw aA az hT hC hN hL d dT hd hlen h0
 have hA:=wV (t:=t) (c:=c) ht hc I zV K
 have hv:=abv c a7 a8 a9 aw aA az (.sl (jX (fK (aX t c d))) 11 false) (aX t c d) hC hS hc hA (.inr ⟨false,rfl⟩)
 have hr:=N9 c a7 a8 a9 aw aA az (.sl (jX (fK (aX t c d))) 11 false) (aX t c d) hC hS hc hA (.inr ⟨false,rfl⟩)
 rw[h2 h0]at h1
 rw[h0]at h1
 generalize fJ (aX t c d) (Hu c)=q at*
 generalize zW (aX t c d) (crS c)=q2 at*
 generalize jX (fK (aX t c d))=AC at*
 unfold aO at*
 refine⟨?_, ?_⟩
 ·rw[au ai5 (by simp[VF])]
  simp only[qA,seval,VF,h1,hv,F,D,Ph,ay8]
 ·rw[au ai6 (by simp[VG])]
  simp only[qA,seval,VG,h1,hr,F,D,Ph,ay9]
def ahr: ∃v,ae pE 67 [.agg [zT,aT,fT],.agg (aO c a7 a8 a9 aw aA az),dT] []=some (.tup [.agg (Eh (T6 t c d).1 v),qi (T6 t c d).2],[])∧LgT (T6 t c d).1 v:=by
 have I:=Aj t c zT aT fT a7 a8 a9 aw aA az hT hC
 have D:=hd.sl.froz
 obtain⟨w,h1,h2,h3⟩:=ahq t c zT aT fT a7 a8 a9 aw aA az hT hC hN hL d dT hd hlen
 rw[ahp]
 by_cases h0:dE t c d=0
 ·rw[if_neg (by simp[h0])]
  obtain⟨ht,hc,hS,Z,g2,g3⟩:=abw t c zT aT fT a7 a8 a9 aw aA az hT hC hN hL d dT hd hlen h0
  obtain⟨n,h4,h5⟩:=h3 h0
  rw[h0]at h1
  by_cases K:jy t c d=true
  ·have O:=h5.2 K
   subst O
   rw[if_pos K]
   have h4:lenI w=some (qi 0):=h4
   obtain⟨k1,k2⟩:=apF t c zT aT fT a7 a8 a9 aw aA az hT hC hN hL d dT hd hlen h0
   have U:=Ll t c zT aT fT a7 a8 a9 aw aA az hT hC ht hc d dT hd Z zV g3
   obtain⟨i,j,r1,r2,hi,hj,ef,eg,ha,hb⟩:=aba t zT aT fT hT ht d dT hd Z zV g3
   obtain⟨fc,f1,f2⟩:=hT.f
   obtain⟨r3,IL⟩:=nq f1 f2 i hi
   obtain⟨r4,F⟩:=nq f1 f2 j hj
   rw[←ef]at IL
   rw[←eg]at F
   have hw:=jw (k:=d.length) zV zV
   have dL:=hd.sl.lenI
   have V:=fun lh sh=>hd.sl.slC (lh:=lh) (sh:=sh) (gY d)
   have DI:d.length*16≤roomy:=by unfold roomy;omega
   have QJ:=gY d
   have W:isNe dT=true:=by
    rcases hd.sl with⟨_,h,_⟩|⟨ex,rfl⟩
    ·omega
    ·cases hq:d.length with
     |zero=>omega
     |succ m=>rfl
   obtain⟨m,hm⟩: ∃m,d.length=m+1:=⟨d.length-1,by omega⟩
   have dZ: ∀lh sh,appW lh sh 49 2 16 .nilsl dT=some (.isl .L 49 ((ab lh 49).g+1) 0 d.length 2,jB lh 49 ⟨(ab lh 49).g+1,.cells (iv d) 0 false⟩):=fun lh sh=>by
    unfold appW
    rw[V,Option.bind_some,hm,wu,if_pos (by rw[←hm];exact DI)]
   have X:d.length*2≤(iv d).length:=zV
   have Y:List.take (d.length*2) (iv d)=iv d:=List.take_of_length_le zV
   refine⟨.sl (iv d) d.length false, ?_,.inr ⟨false,rfl⟩⟩
   unfold cF Eh at*
   simp only
   generalize pX c (df t.fl d 0)=x1 at*
   generalize pY c (df t.fl d (d.length-1))=x2 at*
   generalize fJ (aX t c d) (Hu c)=x5 at*
   generalize zW (aX t c d) (crS c)=x6 at*
   generalize df t.fl d 0=f at*
   generalize df t.fl d (d.length-1)=g at*
   unfold aO at*
   rw[au aee (by simp[c67])]
   simp only[qA,seval,bg,CC,aH,fS,c67,h1,h4,k1,k2,U,ha,hb,IL,F,hw,dL,W,dZ,X,Y,I,D,Int.lt_irrefl,W0,ai4,ayv,ayw]
  ·rw[if_neg K]
   have O:(0:Int)<(n:Int):=by
    grind
   refine⟨.nilsl, ?_,.inl ⟨rfl,rfl,rfl⟩⟩
   unfold Eh T5 aO at*
   rw[au aee (by simp[c67])]
   simp only[qA,seval,c67,h1,h4,O,I,D,W0]
 ·rw[if_pos h0]
  refine⟨.nilsl, ?_,.inl ⟨rfl,rfl,rfl⟩⟩
  generalize dE t c d=e at*
  unfold Eh T5 aO at*
  rw[au aee (by simp[c67])]
  simp only[qA,seval,c67,h1,h0,I,D,W0]
end
def alE{d:List (Int×Bool)}{v:T}(h:IsSl v d.length (iv d))(j:Nat)(D:j<d.length): ∃r,∀kk,iaV v (.i kk (j:Int)) 2=some (.vp (qi d[j].1:: .b d[j].2::r)):=iH (kK.of h) j D
end Go.Proofs.YtnkgnjecmfkcfaaGreat
namespace Go.Proofs.YtnkgnjecmfkcfaaGreat
open Go.Ev
def Sm:Nat→(Nat→Nat)→Nat
 |0,_=>0
 |n+1,f=>Sm n f+f n
theorem xe{f g:Nat→Nat}: ∀{n:Nat},(∀i,i<n→f i=g i)→Sm n f=Sm n g
 |0,_=>rfl
 |n+1,h=>by rw[Sm,Sm,xe (fun i hi=>h i zV),h n zV]
theorem abx(f g:Nat→Nat): ∀n,Sm n (fun i=>f i+g i)=Sm n f+Sm n g
 |0=>rfl
 |n+1=>by simp only[Sm,abx f g n];omega
theorem QK: ∀n,Sm n (fun _=>0)=0
 |0=>rfl
 |n+1=>by rw[Sm,QK n]
theorem QL(f:Nat→Nat→Nat)(m:Nat): ∀n,Sm n (fun i=>Sm m fun j=>f i j)=Sm m fun j=>Sm n fun i=>f i j
 |0=>by simp only[Sm,QK]
 |n+1=>by simp only[Sm,QL f m n];rw[←abx]
theorem Ls(f:Nat→Nat): ∀n,Sm (n+1) f=f 0+Sm n fun i=>f (i+1)
 |0=>by simp[Sm]
 |n+1=>by rw[Sm,Ls f n,Sm];omega
def cv(p q:Nat→Nat)(h:Nat):Nat:=Sm (h+1) fun i=>p i*q (h-i)
def sf(p:Nat→Nat):Nat→Nat
 |0=>0
 |h+1=>p h
def Oa:Nat→Nat
 |0=>1
 |_+1=>0
section
variable(N:Nat)(J:Nat→Nat→Bool)(cp:Nat→Bool)
def uw(b:Bool):Nat:=if b then 1 else 0
def stp(g:Nat)(p:Nat→Nat)(h:Nat):Nat:=uw (cp g)*p h+sf p h
def cA:Nat→Nat→Nat→Nat
 |0,_,_=>0
 |1,g,h=>stp cp g Oa h
 |k+2,g,h=>stp cp g (fun h=>Sm N fun f=>uw (J f g)*cA (k+1) f h) h
def cB:Nat→Nat→Nat→Nat
 |0,_,_=>0
 |1,i,h=>stp cp i Oa h
 |k+2,i,h=>stp cp i (fun h=>Sm N fun j=>uw (J i j)*cB (k+1) j h) h
def cC(k f h:Nat):Nat:=match k with|0=>Oa h|k+1=>Sm N fun j=>uw (J f j)*cB N J cp (k+1) j h
theorem alF(k i h:Nat):cB N J cp (k+1) i h=stp cp i (fun h=>cC N J cp k i h) h:=by
 cases k <;> rfl
end
section
variable(N H:Nat)(J:Nat→Nat→Bool)(cp:Nat→Bool)
def kN(f:Nat):List Nat:=(List.range N).filter fun g=>J f g
def Csu(n:Nat→Nat→Nat):Nat:=Sm (H+1) fun h=>Sm N fun g=>n h g
end
def jn(c:Ct)(l:List Fl)(i j:Nat):Bool:=match l[i]?,l[j]? with
 |some x,some y=>Ai c x y
 |_,_=>false
theorem QM{c:Ct}{l:List Fl}{i j:Nat}(hi:i<l.length)(D:j<l.length):jn c l i j=Ai c l[i] l[j]:=by
 unfold jn;rw[List.getElem?_eq_getElem hi,List.getElem?_eq_getElem D]
theorem HA(J:Nat→Bool)(k:Nat):(List.range (k+1)).filter J=if J k then(List.range k).filter J++ [k]else(List.range k).filter J:=by
 rw[List.range_succ,List.filter_append]
 by_cases h:J k=true <;> simp[h]
def HC(J:Nat→Bool)(k:Nat):((List.range k).filter J).length≤k:=by
 have:=List.length_filter_le J (List.range k)
 rwa [List.length_range]at this
section
variable(zT aT fT a7 a8 a9 aw aA az:T)(c:Ct)(vH fc:List T)(l:List Fl)(hf:IsSl fT l.length fc)(hr:aD U4 l fc)(hN:l.length≤1000)
include hf hr hN
def qL(r:List Nat):T:=if r= []then .nilsl else .sl (ints (r.map Int.ofNat)) r.length false
end
def jc(ops:List Int)(f:Nat):Bool:=decide ((f:Int)∈ops)
def aby(N:Nat)(ops:List Int)(f:Nat)(hf:f<N): ∃q,∀kk,iaV (.sl (yJ (inB N ops)) N false) (.i kk (f:Int)) 1=some (.vp (.b (jc ops f)::q)):=by
 refine⟨(yJ (inB N ops)).drop (f+1),fun kk=> ?_⟩
 rw[cX,if_pos ⟨by omega,by simpa using hf,by rw[wW];simp;omega⟩,Int.toNat_natCast,Nat.mul_one,List.drop_eq_getElem_cons (by rw[wW];exact hf)]
 refine congrArg some (congrArg T.vp (congrArg (· ::_) ?_))
 simp[yJ,inB,jc]
section
variable(zT aT fT a7 a8 a9 aw aA az:T)(c:Ct)(vH fc:List T)(l:List Fl)(hf:IsSl fT l.length fc)(hr:aD U4 l fc)(hN:l.length≤1000)
include hf hr hN
end
def iJ(n:Nat):Int:=wr .i64 (n:Int)
theorem wrap64(n:Int):IntKind.i64.wrap n=if 9223372036854775808≤n%18446744073709551616 then n%18446744073709551616-18446744073709551616 else n%18446744073709551616:=by
 unfold IntKind.wrap
 simp[IntKind.bits,IntKind.signed]
def Oc(n:Nat): ∃k:Int,iJ n=n+18446744073709551616*k∧ -9223372036854775808≤iJ n∧iJ n<9223372036854775808:=by
 unfold iJ
 rw[wr_eq,wrap64]
 split
 ·exact⟨-((n:Int)/18446744073709551616)-1,by omega,by omega,by omega⟩
 ·exact⟨-((n:Int)/18446744073709551616),by omega,by omega,by omega⟩
def apG{a b:Int}(h: ∃k:Int,a=b+18446744073709551616*k):wr .i64 a=wr .i64 b:=by
 obtain⟨k,rfl⟩:=h
 rw[wr_eq,wr_eq,wrap64,wrap64,show(b+18446744073709551616*k)%18446744073709551616=b%18446744073709551616 by omega]
theorem AS(a b:Nat):wr .i64 (iJ a+iJ b)=iJ (a+b):=by
 obtain⟨k,h,_⟩:=Oc a
 obtain⟨m,D,_⟩:=Oc b
 exact apG ⟨k+m,by rw[h,D];push_cast;omega⟩
theorem Lt:iJ 0=0:=zz
theorem ahs:iJ 1=1:=zz
theorem abz(a:Nat):wr .i64 (iJ a)=iJ a:=by
 obtain⟨k,h,h1,h2⟩:=Oc a
 exact aZ ⟨by omega,by omega⟩
section
variable(N H:Nat)(J:Nat→Nat→Bool)(cp:Nat→Bool)
def Ao(c:Nat→Nat→Nat→Nat):Nat→Nat
 |0=>0
 |k+1=>Ao c k+Csu N H (fun h g=>c (k+1) g h)
end
def DN(N:Nat):Option Int→List Int→Int
 |_,[]=>0
 |p,x::l=>if 0≤x∧x<(N:Int)then match p with
    |some q=>if x≤q then 8 else DN N (some x) l
    |none=>DN N (some x) l
  else 6
def Ui(l:List Int)(k:Nat):Option Int:=if k=0 then none else l[k-1]?
theorem Uj(l:List Int)(k:Nat)(hk:k<l.length):Ui l (k+1)=some l[k]:=by
 unfold Ui;rw[if_neg zV,Nat.add_sub_cancel,List.getElem?_eq_getElem hk]
theorem abA(l:List Int)(k:Nat)(hk:k<l.length)(h0:k≠0):Ui l k=some l[k-1]:=by
 unfold Ui;rw[if_neg h0,List.getElem?_eq_getElem zV]
theorem Lu(N:Nat)(p:Option Int)(x:Int)(l:List Int):DN N p (x::l)=if 0≤x∧x<(N:Int)then(match p with|some q=>if x≤q then 8 else DN N (some x) l|none=>DN N (some x) l)else 6:=by cases p <;> rfl
theorem aht(N:Nat)(p:Option Int):DN N p []=0:=by cases p <;> rfl
section
variable(zT aT fT:T)(r fc:List T)(N:Nat)(hf:IsSl fT N fc)(hN:N≤1000)(ops:List Int)(oT:T)(ho:IsSl oT ops.length (ints ops))(hl:ops.length≤1000)
include hf hN ho hl
end
end Go.Proofs.YtnkgnjecmfkcfaaGreat
