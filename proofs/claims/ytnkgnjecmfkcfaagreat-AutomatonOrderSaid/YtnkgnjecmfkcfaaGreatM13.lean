/- Walks of functions of the program and of the reference, and their plain laws, part 13. Conditions: the theorems' own. -/
import Derived.Test.YtnkgnjecmfkcfaaGreatGS
import Derived.Test.YtnkgnjecmfkcfaaGreatM5
import Derived.Test.YtnkgnjecmfkcfaaGreatM9
import Derived.Test.YtnkgnjecmfkcfaaGreatM10
import Derived.Test.YtnkgnjecmfkcfaaGreatM11
import Derived.Test.YtnkgnjecmfkcfaaGreatM12
import Derived.KernelRfl
set_option maxRecDepth 100000
set_option linter.unusedSimpArgs false
set_option linter.unusedVariables false
set_option maxHeartbeats 16000000
namespace Go.Proofs.YtnkgnjecmfkcfaaGreat
open Go Go.Ev
mutual
def Ex.al:Ex→Prop
 | .mk _ _ _ args=>args.length≤fX∧alL args
def alL:List Ex→Prop
 | []=>True
 |x::xs=>x.al∧alL xs
end
structure CtA (c:Ct):Prop where
 a7:(∀u∈c.cs,u.2.al)∧c.cs.length≤fX
 a8:(∀u∈c.ru,u.x.al)∧c.ru.length≤fX
 a9:(∀u∈c.co,u.x.al)∧c.co.length≤fX
 aw:(∀u∈c.cr,u.al)∧c.cr.length≤fX
 aA:c.li.length≤fX
 az:c.fs.length≤fX
theorem Fp{s:List Nat}: ∀{l:List (List Nat)} {k:Nat},s∈l→ ∃i,∃hi:i<l.length,ixA s l k=((k+i:Nat):Int)∧l[i]=s
 | [],k,h=>by cases h
 |x::r,k,h=>by
  rw[ixA]
  by_cases e:x=s
  ·rw[if_pos e];exact⟨0,by simp,rfl,e⟩
  ·rw[if_neg e]
   rcases List.mem_cons.1 h with h|h
   ·grind
   ·obtain⟨i,hi,h1,h2⟩:=Fp (k:=k+1) h
    exact⟨i+1,by simpa using hi,by rw[h1];congr 1;omega,by simpa using h2⟩
section
variable(t:Tt)(c:Ct)(zT aT fT a7 a8 a9 aw aA az:T)(hT:ky t zT aT fT)(hC:kP c a7 a8 a9 aw aA az)(ht:pG t=0)(hc:eV c=0)
theorem NT(hT:ky t zT aT fT)(ht:pG t=0){s:List Nat}(hs:s∈t.ap.map Ap.cd): ∃a,ae pE 97 [.agg [zT,aT,fT],.s s] []=some (.agg (A9 (Fc t s) a),[])∧ZoT (Fc t s) a:=by
 obtain⟨⟨W,D,R⟩,⟨ac,F,U⟩,⟨fc,X,f2⟩⟩:=hT
 obtain⟨_,l1,_,l2⟩:=Lw t ht
 have h1:=ahB s t.ap aT ac F U zZ
 obtain⟨i,hi,e1,e2⟩:=Fp (k:=0) hs
 rw[List.length_map]at hi
 rw[List.getElem_map]at e2
 have I:=(uU t ht).2.1 t.ap[i] (List.getElem_mem hi)
 have h2:=ahC t.ap[i].zn t.zo zT W D R zZ
 obtain⟨j,K,e3,e4⟩:=Fp (k:=0) I
 rw[List.length_map]at K
 rw[List.getElem_map]at e4
 rw[e1,Nat.zero_add]at h1
 rw[e3,Nat.zero_add]at h2
 have Y:=Xu ht (List.getElem_mem hi) (List.getElem_mem K) e2 e4
 obtain⟨r1,h3⟩:=ID F U i hi
 obtain⟨V,Z,r2,h4,O,s2⟩:=IC D R j K
 rw[Y]
 refine⟨V, ?_,Z,O,s2⟩
 have hn: ¬((i:Nat):Int)<0:=zZ
 generalize t.ap[i]=u at*
 generalize t.zo[j]=z at*
 have h5:ae pE 170 [.agg [zT,aT,fT],.s s] []=some (.tup [.agg (A9 z V),.b true],[]):=by
  unfold A9
  rw[av afO (by simp[SN])]
  simp only[qA,seval,bj,aH,SN,h1,h2,h3,h4,hn,O.froz1,D.froz,F.froz,MD,TW,afH]
 unfold A9 at*
 rw[av ai7 (by simp[c97])]
 simp only[qA,seval,c97,h5,O.froz1,D.froz1,F.froz1,X.froz1,atX]
end
theorem DB(z:Zo)(a:T)(F:ZoT z a)(hv:gG z=0)(t:Int)(ht:qk t=true):ae pE 100 [.agg (A9 z a),.i .i64 t] []=some (.i .i64 (z.clk t),[]):=by
 have h1:=Xp z a F hv t ht
 have D:froz1 a=true:=by obtain⟨K,I,_⟩:=F;exact I.froz1
 unfold A9 at*
 rw[av TF (by simp[So])]
 simp only[qA,seval,So,h1,D,atZ]
section
variable(t:Tt)(c:Ct)(zT aT fT a7 a8 a9 aw aA az:T)(hT:ky t zT aT fT)(hC:kP c a7 a8 a9 aw aA az)(ht:pG t=0)(hc:eV c=0)
include hT hC ht hc
theorem XS(f g:Fl)(hf:f∈t.fl)(hg:g∈t.fl):ae pE 54 [.agg [zT,aT,fT],.agg (aV c a7 a8 a9 aw aA az),.s f.fr,.s g.to,.agg [.i .i64 (tg c f),.i .i64 (th c g)]] []=some (.tup [.i .i64 (th c g-tg c f),.i .i64 (LD t c f g),.i .i64 (QS t c f g),.i .i64 (Xv t c f),.i .i64 (Xw t c g)],[]):=by
 have O:=Dt t c zT aT fT a7 a8 a9 aw aA az hT hC
 obtain⟨b1,b2,_,_,w3⟩:=Xx hc ((j0 t ht).1 _ hf) ((j0 t ht).1 _ hg)
 obtain⟨za,R,ZO⟩:=NT t zT aT fT hT ht (nM ht hf).1
 obtain⟨zb,U,F⟩:=NT t zT aT fT hT ht (nM ht hg).2
 have V:=Fe ht (nM ht hf).1
 have Z:=Fe ht (nM ht hg).2
 have nf:=adB hc
 have i1:=NL (x:=tg c f) zZ
 have i2:=NL (x:=th c g) zZ
 have o1:=oW _ za ZO (ri V).2.1 V (tg c f)
 have o2:=oW _ zb F (ri Z).2.1 Z (th c g)
 have l1:=DB _ za ZO V _ i1
 have l2:=DB _ zb F Z _ i2
 have d1:=Zo.off_bd V (tg c f)
 have d2:=Zo.off_bd Z (th c g)
 have bm:tg c f≤th c g→_:=fun h=>alc _ za ZO V (tg c f) (th c g) c.nf c.nt ⟨by omega,by omega,by omega,by omega,by omega,by omega,by omega⟩
 have hni:LD t c f g=if tg c f≤th c g then(Fc t f.fr).bandM (tg c f) (th c g) c.nf c.nt else 0:=by
  grind [LD,Zo.bandM,QQ]
 have W:=ZO.choose_spec.1.froz1
 have X:=F.choose_spec.1.froz1
 have ca:=ZO.choose_spec.1.cells
 have cb:=F.choose_spec.1.cells
 rw[hni]
 unfold QS Xv Xw
 generalize tg c f=S at*
 generalize th c g=E at*
 generalize Fc t f.fr=I at*
 generalize Fc t g.to=K at*
 have w4:wr .i64 (K.off E-I.off S)=K.off E-I.off S:=bI zZ
 have w5:wr .i64 (0-(K.off E-I.off S))=I.off S-K.off E:=by rw[bI zZ];omega
 have Y:max (K.off E-I.off S) (I.off S-K.off E)=max (I.off S-K.off E) (K.off E-I.off S):=zZ
 generalize I.off S=p1 at*
 generalize K.off E=p2 at*
 unfold A9 aV at*
 rw[av aiR (by simp[c54])]
 by_cases D:S≤E
 ·have bm:=bm D
  rw[if_pos D]
  simp only[qA,seval,bj,AJ,aH,c54,R,U,w3,w4,w5,D,bm,o1,o2,l1,l2,I3,Y,W,X,O,atc,atd,atf,TE,atg,ae5,ae6]
 ·rw[if_neg D]
  simp only[qA,seval,bj,AJ,aH,c54,R,U,w3,w4,w5,D,o1,o2,l1,l2,I3,Y,W,X,O,atc,atd,atf,TE,atg,ae5,ae6]
end
def jo(l:List (List Nat×Int)):List T:=l.flatMap fun p=> [.s p.1,.i .i64 p.2]
theorem XT(l:List (List Nat×Int)):(jo l).length=l.length*2:=jH (sz:=2) (fun _=>rfl) l
theorem XU(l:List (List Nat×Int))(p:List Nat×Int):jo l++ [.s p.1,.i .i64 p.2]=jo (l++ [p]):=by unfold jo;rw[List.flatMap_append];rfl
def fq(A:List Int):List (List Nat×Int):=bu.zip A
theorem ints_at{A:List Int}{v:T}(h:IsSl v A.length (ints A))(k:Nat)(hk:k<A.length): ∃r,∀kk,iaV v (.i kk (k:Int)) 1=some (.vp (.i .i64 A[k]::r)):=by
 refine⟨(ints A).drop (k+1),fun kk=> ?_⟩
 rw[h.ia (sz:=1) (by rw[dR];omega) hk,Nat.mul_one,ll A k hk]
theorem XV(k:Nat)(hk:k<11): ∃r,∀kk,iaV (.sl (strs bu) 11 true) (.i kk (k:Int)) 1=some (.vp (.s (bu[k]'(by show k<11;exact hk))::r)):=by
 have hs:IsSl (.sl (strs bu) 11 true) 11 (strs bu):= .inr ⟨true,rfl⟩
 refine⟨(strs bu).drop (k+1),fun kk=> ?_⟩
 rw[hs.ia (sz:=1) rfl hk,Nat.mul_one,List.drop_eq_getElem_cons (by show k<11;exact hk)]
 unfold strs
 rw[List.getElem_map]
theorem aCM(A:List Int)(v:T)(hA:A.length=11)(hv:IsSl v A.length (ints A))(fr:Fr)(lh:aE ah)(sh:List ah)(h1:aa fr 1=v)(h5:aa fr 5= .nilsl)(h6:aa fr 6= .sl (strs bu) 11 true)(F:aa fr 7= .i .i64 0):
  uL 29 om fr lh sh (.ext 0)∧
  (bh (iu pE 29 om fr lh sh) (aa (pz pE 29 om fr lh sh) 5) 27 2 11 (jo (fq A))∧jw pE 29 om fr lh sh=sh):=by
 refine gI (fun k st=> ∃(fr:Fr) (lh:aE ah),st=⟨fr,lh,sh⟩∧aa fr 1=v∧aa fr 6= .sl (strs bu) 11 true∧aa fr 7= .i .i64 (k:Int)∧bh lh (aa fr 5) 27 2 k (jo ((fq A).take k)))
  (fun U aU V=>bh aU (aa U 5) 27 2 11 (jo (fq A))∧V=sh) _ 11 ?_ ?_ fr lh sh ⟨fr,lh,rfl,h1,h6,F,by rw[h5];exact bh.nil⟩
 ·rintro k _ hk ⟨fr,lh,rfl,h1,h6,F,D⟩
  have K:(k:Int)<11:=zZ
  have W:=aG (k:=k) zZ
  obtain⟨Z,GC⟩:=XV k hk
  obtain⟨r2,B3⟩:=ints_at hv k zZ
  have X:(fq A).length=11:=by unfold fq;rw[List.length_zip,hA];rfl
  have Y:jo ((fq A).take (k+1))=jo ((fq A).take k)++ [.s (bu[k]'(by show k<11;exact hk)),.i .i64 (A[k]' zZ)]:=by
   rw[List.take_succ_eq_append_getElem zZ,←XU]
   unfold fq
   rw[List.getElem_zip]
  rw[Y]
  generalize bu[k]'(by show k<11;exact hk)=nm at*
  generalize A[k]' zZ=x at*
  have O:=dV (sh:=sh) D [.s nm,.i .i64 x] rfl (bytes:=24) (by unfold roomy;omega) true
  have R:=D.notS
  have I:=Lk D rfl
  generalize h5:aa fr 5=v5 at D O R I
  simp only[qA,seval,repl,bj,aH,fC,om,h1,h5,h6,F,K,GC,B3,W,R,I,O.1]
  exact fN ⟨_,_,rfl,by simp only[qA,seval,h1],by simp only[qA,seval,h6],by simp only[qA,seval],by simp only[qA,seval];exact O.2.1⟩
 ·rintro _ ⟨fr,lh,rfl,h1,h6,F,D⟩
  have X:(fq A).length=11:=by unfold fq;rw[List.length_zip,hA];rfl
  rw[List.take_of_length_le zZ]at D
  simp only[qA,seval,om,h6,F,Int.lt_irrefl]
  exact jZ ⟨rfl,by simp only[qA,seval];exact D,rfl⟩
theorem QY(A:List Int)(v:T)(hA:A.length=11)(hv:IsSl v A.length (ints A)):ae pE 285 [.i .i64 1,v] []=some (.sl (jo (fq A)) 11 false,[]):=by
 have hL:=fun fr lh sh h1 h5 h6 D=>aCM A v hA hv fr lh sh h1 h5 h6 D
 have I:=fun m keep fr lh sh h1 h5 h6 D=>bh.fzW (m:=m) (keep:=keep) (sh:=sh) (hL fr lh sh h1 h5 h6 D).2.1
 have F:=fun keep fr lh sh h1 h5 h6 D=>bh.fzV (keep:=keep) (sh:=sh) (hL fr lh sh h1 h5 h6 D).2.1
 have ho:bG 11 (jo (fq A))= .sl (jo (fq A)) 11 false:=rfl
 rw[ho]at I F
 rw[av agQ (by simp[Tv])]
 simp only[qA,seval,Tv,AN,hL,F,AK,Kx]
theorem adN(l:List (List Nat))(k:Nat)(hk:k<l.length):(l.map T.s)[k]? =some (.s l[k]):=by rw[List.getElem?_map,List.getElem?_eq_getElem hk];rfl
theorem aCN(f:Fl)(ks:List (List Nat))(hlen:ks.length≤1000)(g:Nat)(fr:Fr)(lh:aE ah)(sh:List ah)(D:bh lh (aa fr 12) 98 1 ks.length (ks.map T.s))(W:aa fr 14= .ptr .L 14 g 0)(X:aa fr 16= .b false)(Y:aa fr 17= .i .i64 0)(I:ab lh 14=⟨g,.cells (sV f) 0 true⟩):
  Lp pE 134 tR fr lh sh (.ext 2) fun F l s=>aa F 16= .b (decide (f.ty∈ks))∧l=lh∧s=sh:=by
 unfold sV at I
 have O:=D.lenI
 refine cm wv (fun k F l s=>aa F 16= .b (decide (f.ty∈ks.take k))∧aa F 17= .i .i64 (k:Int)∧l=lh∧s=sh) ks.length ⟨by rw[X];simp,Y,rfl,rfl⟩ ?_ ?_
 ·rintro k F _ _ hk R ⟨K,LK,rfl,rfl⟩
  have U:(k:Int)<ks.length:=zZ
  have Z:=aG (k:=k) zZ
  rcases D with⟨h,_,_⟩|⟨g2,wm,D,o98,hl,hp⟩
  ·omega
  have Am:=adN ks k hk
  have iQ:decide (f.ty∈ks.take (k+1))=(decide (f.ty∈ks.take k)||decide (ks[k]=f.ty)):=by
   rw[List.take_succ_eq_append_getElem hk]
   grind
  rw[D]at O
  cases V:decide (f.ty∈ks.take k) <;> rw[V]at K <;> simp only[qA,seval,gd,tR,R,D,W,K,LK,I,o98,O,U,hk,Am,Z,iQ,V,Bool.false_or,Bool.true_or]
 ·rintro F _ _ R ⟨K,LK,rfl,rfl⟩
  rw[List.take_length]at K
  simp only[qA,seval,gd,tR,R,K,LK,O,Int.lt_irrefl]
section
variable(t:Tt)(c:Ct)(zT aT fT a7 a8 a9 aw aA az:T)(hT:ky t zT aT fT)(hC:kP c a7 a8 a9 aw aA az)(ht:pG t=0)(hc:eV c=0)
theorem aCO(hT:ky t zT aT fT)(ht:pG t=0)(d:List (Int×Bool))(dT:T)(hd:uX d dT)(hlen:d.length≤100)(bH: ∀k∈d,lK t.fl.length k.1=true)(E4:ah)(fr:Fr)(lh:aE ah)(sh:List ah)(h2:aa fr 2=dT)(h3:aa fr 3= .ptr .L 3 1 0)(h4:aa fr 4= .ptr .L 4 1 0)(O:aa fr 7= .i .i64 0)(R:aa fr 8= .i .i64 0)(U:aa fr 9= .i .i64 0)(D:aa fr 10= .i .i64 0)(F:aa fr 11= .i .i64 1440)(h12:aa fr 12= .nilsl)(V:aa fr 13= .i .i64 0)(W:ab lh 3=⟨1,.cells [zT,aT,fT] 0 true⟩)(X:ab lh 4=E4):
  Lp pE 134 qI fr lh sh (.ext 0) fun f l s=>aa f 7= .i .i64 (pN t.fl d d.length).lg∧aa f 8= .i .i64 (pN t.fl d d.length).hd∧aa f 9= .i .i64 (pN t.fl d d.length).bk∧aa f 10= .i .i64 (pN t.fl d d.length).lo∧aa f 11= .i .i64 (pN t.fl d d.length).so∧lenI (aa f 12)=some (.i .i64 ((pN t.fl d d.length).ks.length:Int))∧ab l 3=⟨1,.cells [zT,aT,fT] 0 true⟩∧ab l 4=E4∧s=sh:=by
 have eQ:=hd.sl.lenI
 refine cm CG (fun k f l s=>aa f 7= .i .i64 (pN t.fl d k).lg∧aa f 8= .i .i64 (pN t.fl d k).hd∧aa f 9= .i .i64 (pN t.fl d k).bk∧aa f 10= .i .i64 (pN t.fl d k).lo∧aa f 11= .i .i64 (pN t.fl d k).so∧aa f 13= .i .i64 (k:Int)∧bh l (aa f 12) 98 1 (pN t.fl d k).ks.length ((pN t.fl d k).ks.map T.s)∧ab l 3=⟨1,.cells [zT,aT,fT] 0 true⟩∧ab l 4=E4∧s=sh) d.length ⟨O,R,U,D,F,V,by rw[h12];exact bh.nil,W,X,rfl⟩ ?_ ?_
 ·rintro k Y l _ hk pr ⟨O,R,U,D,F,V,I,W,X,rfl⟩
  have Z:(k:Int)<d.length:=zZ
  have hw:=aG (k:=k) zZ
  have kK:=(j0 t ht).1
  obtain⟨rr,K⟩:=pk hd k hk
  obtain⟨i,hi,ei,ef,fok⟩:=fy kK bH hk
  obtain⟨fc,fc1,fc2⟩:=hT.f
  obtain⟨r2,GD⟩:=mr fc1 fc2 i hi
  rw[←ef]at GD
  obtain⟨c1,c2,c3,c4,c5,c6⟩:=LG kK bH k zZ
  have iQ:pN t.fl d (k+1)=if k=0 then LF (eA t.fl d k) d[k].2 (pN t.fl d k)else Xz (eA t.fl d (k-1)) (eA t.fl d k) (LF (eA t.fl d k) d[k].2 (pN t.fl d k)):=by rw[pN,wW hk]
  have fA:=fun(aU:aE ah) (aX:List ah) (e:ab aU 98=ab l 98)=>dV (sh:=aX) (I.congr e) [.s (eA t.fl d k).ty] rfl (bytes:=16) (aw4 zZ) true
  have nY:=I.notS
  rw[ei]at K
  obtain⟨_,f1,f2,f3,f4⟩:=id fok
  obtain⟨G,hG⟩: ∃G,(ab l 14).g+1=G:=⟨_,rfl⟩
  have hD:=aCN (eA t.fl d k) (pN t.fl d k).ks zZ G
  unfold sV at hD
  generalize aw9:aa Y 12=v12 at I fA nY
  generalize pN t.fl d k=s at*
  have w1:wr .i64 (s.lg+1)=s.lg+1:=bI zZ
  have w2:wr .i64 (s.hd+1)=s.hd+1:=bI zZ
  have w3:wr .i64 (s.bk+(eA t.fl d k).ar)=s.bk+(eA t.fl d k).ar:=bI zZ
  have w4:wr .i64 (s.bk+(eA t.fl d k).ar-(eA t.fl d k).dp)=s.bk+((eA t.fl d k).ar-(eA t.fl d k).dp):=by rw[bI zZ];omega
  have hks:adK (eA t.fl d k).ty s.ks=if(eA t.fl d k).ty∈s.ks then s.ks else s.ks++ [(eA t.fl d k).ty]:=rfl
  by_cases BI:k=0
  ·have XW: ¬(0:Int)<(k:Int):=zZ
   rw[iQ,if_pos BI]
   generalize eA t.fl d k=f at*
   generalize d[k].2=b at*
   cases b <;> by_cases hm:f.ty∈s.ks <;> simp only[qA,seval,gd,bj,AJ,aH,repl,qI,wv,pr,h2,h3,O,R,U,D,F,V,aw9,W,X,eQ,Z,hw,K,GD,w1,w2,w3,w4,XW,hG,hD,dN,I,hm,hks,LF,nY,fA,List.length_append,List.map_append]
  ·have XW:(0:Int)<(k:Int):=zZ
   have GA:=kR (k:=k) zZ zZ
   obtain⟨r3,Kf⟩:=pk hd (k-1) zZ
   obtain⟨j,hj,ej,eg,gok⟩:=fy kK bH (k:=k-1) zZ
   obtain⟨r4,hfb⟩:=mr fc1 fc2 j hj
   rw[←eg]at hfb
   rw[ej]at Kf
   have gap:=XD fok gok
   have w5:wr .i64 ((eA t.fl d k).dp-(eA t.fl d (k-1)).ar)=(eA t.fl d k).dp-(eA t.fl d (k-1)).ar:=bI zZ
   rw[iQ,if_neg BI]
   generalize eA t.fl d k=f at*
   generalize eA t.fl d (k-1)=g at*
   generalize d[k].2=b at*
   cases b <;> by_cases hm:f.ty∈s.ks <;> simp only[qA,seval,gd,bj,AJ,aH,repl,qI,wv,pr,h2,h3,O,R,U,D,F,V,aw9,W,X,eQ,Z,hw,K,GD,w1,w2,w3,w4,XW,hG,hD,dN,I,hm,hks,Xz,LF,nY,fA,List.length_append,List.map_append,I3,Xr,Kf,hfb,GA,w5]
 ·rintro Y l _ pr ⟨O,R,U,D,F,V,I,W,X,rfl⟩
  simp only[qA,seval,gd,qI,pr,h2,O,R,U,D,F,V,I.lenI,W,X,eQ,Int.lt_irrefl]
end
section
variable(t:Tt)(c:Ct)(zT aT fT a7 a8 a9 aw aA az:T)(hT:ky t zT aT fT)(hC:kP c a7 a8 a9 aw aA az)(ht:pG t=0)(hc:eV c=0)(d:List (Int×Bool))(dT:T)(hd:uX d dT)(h1:1≤d.length)(hlen:d.length≤100)(bH: ∀k∈d,lK t.fl.length k.1=true)
include hT ht hd h1 hlen bH
theorem DD:ae pE 204 [.agg [zT,aT,fT],dT] []=some (.agg (sV (eA t.fl d 0)),[]):=by
 obtain⟨i,j,O,R,hi,U,D,V,F,W⟩:=XJ t zT aT fT hT ht d dT hd h1 hlen bH
 obtain⟨⟨X,Y,Z⟩,⟨ac,b1,b2⟩,⟨fc,I,K⟩⟩:=hT
 obtain⟨r3,hf⟩:=mr I K i hi
 rw[D]
 generalize t.fl[i]=f at*
 unfold sV
 rw[av Ud (by simp[S2])]
 simp only[qA,seval,bj,aH,S2,F,hf]
theorem Jd:ae pE 205 [.agg [zT,aT,fT],dT] []=some (.agg (sV (eA t.fl d (d.length-1))),[]):=by
 obtain⟨i,j,V,W,hi,D,X,F,Y,I⟩:=XJ t zT aT fT hT ht d dT hd h1 hlen bH
 obtain⟨⟨Z,z1,z2⟩,⟨ac,b1,b2⟩,⟨fc,K,O⟩⟩:=hT
 obtain⟨r3,hf⟩:=mr K O j D
 rw[F]
 generalize t.fl[j]=f at*
 have R:=kR (k:=d.length) zZ zZ
 have U:=hd.sl.lenI
 unfold sV
 rw[av Ue (by simp[S3])]
 simp only[qA,seval,bj,aH,S3,U,R,I,hf]
include hC hc
theorem Je:ae pE 123 [.agg [zT,aT,fT],.agg (aV c a7 a8 a9 aw aA az),dT] []=some (.agg [.i .i64 (tg c (eA t.fl d 0)),.i .i64 (th c (eA t.fl d (d.length-1)))],[]):=by
 have K:=Dt t c zT aT fT a7 a8 a9 aw aA az hT hC
 have AG:=DD t zT aT fT hT ht d dT hd h1 hlen bH
 have WJ:=Jd t zT aT fT hT ht d dT hd h1 hlen bH
 obtain⟨_,_,_,_,D⟩:=fy (j0 t ht).1 bH (k:=0) zZ
 obtain⟨_,_,_,_,F⟩:=fy (j0 t ht).1 bH (k:=d.length-1) zZ
 obtain⟨_,_,O,R,_⟩:=Xx hc D F
 generalize eA t.fl d 0=f at*
 generalize eA t.fl d (d.length-1)=g at*
 generalize tg c f=S at*
 generalize th c g=E at*
 have I:=hd.sl.froz
 unfold sV aV at*
 rw[av TJ (by simp[Sv])]
 simp only[qA,seval,bj,aH,Sv,AG,WJ,O,R,K,I,af4,af5,af6,af7]
theorem alr:ae pE 255 [.agg [zT,aT,fT],.agg (aV c a7 a8 a9 aw aA az),dT] []=some (.sl (jo (fq (eo t c d))) 11 false,[]):=by
 have U:=Dt t c zT aT fT a7 a8 a9 aw aA az hT hC
 have AG:=DD t zT aT fT hT ht d dT hd h1 hlen bH
 have WJ:=Jd t zT aT fT hT ht d dT hd h1 hlen bH
 have D:=Je t c zT aT fT a7 a8 a9 aw aA az hT hC ht hc d dT hd h1 hlen bH
 obtain⟨i,hi,_,V,_⟩:=fy (j0 t ht).1 bH (k:=0) zZ
 obtain⟨j,W,_,X,_⟩:=fy (j0 t ht).1 bH (k:=d.length-1) zZ
 have F:=XS t c zT aT fT a7 a8 a9 aw aA az hT hC ht hc (eA t.fl d 0) (eA t.fl d (d.length-1)) (by rw[V];exact List.getElem_mem hi) (by rw[X];exact List.getElem_mem W)
 have hL:=fun E4 fr lh sh h2 h3 h4 Y Z h9 I K O rk o3 o4=>aCO t zT aT fT hT ht d dT hd hlen bH E4 fr lh sh h2 h3 h4 Y Z h9 I K O rk o3 o4
 have ew:=QY (eo t c d) (.sl (ints (eo t c d)) 11 true) rfl (.inr ⟨true,rfl⟩)
 have R:=hd.sl.froz
 unfold eo at*
 generalize pN t.fl d d.length=s at*
 generalize eA t.fl d 0=f at*
 generalize eA t.fl d (d.length-1)=g at*
 unfold ints at ew
 simp only[List.map_cons,List.map_nil]at ew
 generalize jo _=AC at*
 unfold sV aV at*
 rw[av agG (by simp[To])]
 simp only[qA,seval,repl,bj,aH,To,CG,hL,AG,WJ,D,F,ew,U,R,af4,af5,af6,af7,afj,ats,aAG,aAH,auB]
end
section
variable(t:Tt)(c:Ct)(zT aT fT a7 a8 a9 aw aA az:T)(hT:ky t zT aT fT)(hC:kP c a7 a8 a9 aw aA az)(hN:Ds c)(hL: ∀f∈t.fl,f.nu.length≤fX)(d:List (Int×Bool))(dT:T)(hd:uX d dT)(hlen:d.length≤1000)
include hT hC hN hL hd hlen
theorem NU: ∃v,ae pE 202 [.agg [zT,aT,fT],.agg (aV c a7 a8 a9 aw aA az),dT] []=some (.tup [v,.i .i64 (if eb t c≠0 then eb t c else fx c t.fl d)],[])∧((if eb t c≠0 then eb t c else fx c t.fl d)=0→v= .sl (jo (fq (eo t c d))) 11 false)∧froz1 v=true:=by
 have O:=Dt t c zT aT fT a7 a8 a9 aw aA az hT hC
 have I:=adu t c zT aT fT a7 a8 a9 aw aA az hT hC hN hL d dT hd hlen
 have D:=hd.sl.froz
 by_cases h0:(if eb t c≠0 then eb t c else fx c t.fl d)=0
 ·have F:eb t c=0:=by
   by_cases h:eb t c=0
   ·exact h
   ·rw[if_pos h]at h0;exact h0
  have hs:fx c t.fl d=0:=by rw[if_neg (by simp[F])]at h0;exact h0
  obtain⟨ht,hc⟩:=Fa t c zT aT fT a7 a8 a9 aw aA az hT hC hN F
  obtain⟨h1,h6,bH,_⟩:=kU hs
  have K:=alr t c zT aT fT a7 a8 a9 aw aA az hT hC ht hc d dT hd h1 zZ bH
  rw[h0]at I ⊢
  refine⟨_, ?_,fun _=>rfl,rfl⟩
  rw[av Uc (by simp[Kt])]
  unfold aV at*
  simp only[qA,seval,Kt,I,K,O,D,agF,auv]
 ·generalize (if eb t c≠0 then eb t c else fx c t.fl d)=e at*
  refine⟨.nilsl, ?_,fun h=>absurd h h0,rfl⟩
  rw[av Uc (by simp[Kt])]
  unfold aV at*
  simp only[qA,seval,Kt,I,h0,O,D,agF]
end
theorem Fq{l:List (List Nat×Int)}{v:T}(h:IsSl v l.length (jo l))(j:Nat)(D:j<l.length): ∃r,∀kk,iaV v (.i kk (j:Int)) 2=some (.vp (.s l[j].1:: .i .i64 l[j].2::r)):=by
 refine⟨jo (l.drop (j+1)),fun kk=> ?_⟩
 rw[h.ia (XT l) D]
 simp_all[jo,Db]
theorem aCP(s:List Nat)(l:List (List Nat×Int))(a:T)(D:IsSl a l.length (jo l))(hlen:l.length≤1000)(r:Int)(hr:r=ixA s (l.map Prod.fst) 0)(o:Out)(ho:o=if r<0 then .ext 0 else .ret)(fr:Fr)(lh:aE ah)(sh:List ah)(h0:aa fr 0=a)(h1:aa fr 1= .s s)(h5:aa fr 5= .i .i64 0):
  uL 20 qw fr lh sh o∧
  ((¬r<0→aa (pz pE 20 qw fr lh sh) 4= .i .i64 r)∧jw pE 20 qw fr lh sh=sh):=by
 refine gI (fun k st=> ∃(fr:Fr) (lh:aE ah),st=⟨fr,lh,sh⟩∧r=ixA s ((l.drop k).map Prod.fst) k∧aa fr 0=a∧aa fr 1= .s s∧aa fr 5= .i .i64 (k:Int))
  (fun O aU R=>(¬r<0→aa O 4= .i .i64 r)∧R=sh) _ l.length ?_ ?_ fr lh sh ⟨fr,lh,rfl,hr,h0,h1,h5⟩
 ·rintro k _ hk ⟨fr,lh,rfl,hr,h0,h1,h5⟩
  have F:(k:Int)<l.length:=zZ
  have U:=aG (k:=k) zZ
  obtain⟨V,I⟩:=Fq D k hk
  have K:=D.lenI
  rw[List.drop_eq_getElem_cons hk,List.map_cons,ixA]at hr
  generalize l[k]=y at*
  simp only[qB,seval,qw,h0,h1,h5,K,F,I,U]
  refine ET (fun h=> ?_) (fun h=> ?_)
  ·rw[if_pos h]at hr
   exact sL ⟨by rw[ho,if_neg zZ],fun _=>(by simp only[qA,seval,hr]),rfl⟩
  ·rw[if_neg h]at hr
   exact fN ⟨_,_,rfl,hr,by simp only[qA,seval,h0],by simp only[qA,seval,h1],by simp only[qA,seval]⟩
 ·rintro _ ⟨fr,lh,rfl,hr,h0,h1,h5⟩
  rw[List.drop_length,List.map_nil,ixA]at hr
  have K:=D.lenI
  simp only[qA,seval,qw,h0,h5,K,Int.lt_irrefl]
  grind [jZ]
theorem NV(s:List Nat)(l:List (List Nat×Int))(a:T)(D:IsSl a l.length (jo l))(hlen:l.length≤1000):ae pE 105 [a,.s s] []=some (.i .i64 (ixA s (l.map Prod.fst) 0),[]):=by
 have hL:=fun fr lh sh h0 h1 h5=>aCP s l a D hlen _ rfl _ rfl fr lh sh h0 h1 h5
 have XE:=Bb s (l.map Prod.fst) 0
 rw[av afa (by simp[OS])]
 generalize ixA s (l.map Prod.fst) 0=v at*
 by_cases h:v<0
 ·have e:=XE h
  subst e
  simp only[qA,seval,OS,hL]
 ·simp only[h,if_false,not_false_eq_true,forall_const]at hL
  simp only[qA,seval,OS,hL]
theorem adO(k n:Int)(h:Bc k n)(hk:k≠4):ae pE 104 [.i .i64 k,.i .i64 n] []=some (.i .i64 n,[]):=by
 rw[av ae9 (by simp[Kl])]
 have hcl:bd n→ae pE 179 [.i .i64 n] []=some (.i .i64 n,[]):=by
  intro D
  have e:max (-1099511627776) (min 1099511627776 n)=n:=by unfold bd at D;omega
  rw[av T6 (by simp[Kr])]
  simp only[qA,seval,Kr,I3,Xr,e]
 rcases h with⟨h1|h1,h2⟩|⟨h1,h2,h3⟩|⟨h1,h2⟩
 ·have hc:=hcl h2
  subst h1
  simp only[qA,seval,Kl,hc,zE]
 ·have hc:=hcl h2
  subst h1
  simp only[qA,seval,Kl,hc,zE]
 ·have hs:=wV n (by unfold I1;omega)
  have e:n%1440=n:=zZ
  rw[e]at hs
  subst h1
  simp only[qA,seval,Kl,hs,ME]
 ·grind
theorem QZ(s:List Nat):kq s≠4:=by
 grind [kq]
theorem Q0{l:List (List Nat)}(h:l.Nodup){i j:Nat}(hi:i<l.length)(D:j<l.length)(e:l[i]=l[j]):i=j:=by
 rcases Nat.lt_trichotomy i j with h1|h1|h1
 ·exact absurd e (List.pairwise_iff_getElem.1 h i j hi D h1)
 ·exact h1
 ·exact absurd e.symm (List.pairwise_iff_getElem.1 h j i D hi h1)
theorem Q1{s:List Nat}{i:Nat}(h:Kb 1 s=some i):i<11∧ixA s bu 0=(i:Int):=by
 have h1:bu[i]? =some s:=LH h
 obtain⟨hi,e⟩:=List.getElem?_eq_some_iff.1 h1
 obtain⟨j,D,e1,e2⟩:=Fp (k:=0) (List.mem_of_getElem? h1)
 have:j=i:=Q0 Jf D hi (by rw[e2,e])
 exact⟨hi,by rw[e1,this];simp⟩
section
variable(l:Cs)(lT vT kS:T)(cl:List T)(A:List Int)(hl:IsSl lT l.length cl)(hcl:cW l cl)(hlen:l.length≤iP)(hv:IsSl vT l.length (ints (sd l l.length)))(hA:LI A)(ew:IsSl kS 11 (jo (fq A)))
def axa(y:Ex):Prop:= ∀k cs,gr y cs→y.nodes≤100000→y.wf=true→y.ty (NM (E0 l) 1) 0=(k,0)→ae pE 57 [vT,lT,.i .i64 1,kS,.agg cs] []=some (.i .i64 (y.val0 (pH (fm l) 1 A)),[])
include hl hv ew
theorem aCQ(xs:List Ex)(ih: ∀y∈xs,axa l lT vT kS A y)(a:T)(cc:List T)(R:IsSl a xs.length cc)(hx:cw xs cc)(hn:fO xs≤100000)(yI:EW xs=true)(ts:List Int)(U:ku (NM (E0 l) 1) 0 xs= .ok ts)(op num:Int)(s:List Nat)(g:Nat)(fr:Fr)(lh:aE ah)(sh:List ah)
  (h0:aa fr 0=vT) (h1:aa fr 1=lT) (h2:aa fr 2= .i .i64 1) (h3:aa fr 3=kS) (F:aa fr 9= .ptr .L 9 g 0) (V:aa fr 13= .nilsl) (K:aa fr 14= .i .i64 0) (W:ab lh 9=⟨g,.cells [.i .i64 op,.i .i64 num,.s s,a] 0 true⟩):
  uL 70 oa fr lh sh (.ext 0)∧
  (bh (iu pE 70 oa fr lh sh) (aa (pz pE 70 oa fr lh sh) 13) 63 1 xs.length (ints (ft (pH (fm l) 1 A) xs))∧ab (iu pE 70 oa fr lh sh) 9=ab lh 9∧jw pE 70 oa fr lh sh=sh):=by
 refine cj (P:=fun cK aU aX=>bh aU (aa cK 13) 63 1 xs.length (ints (ft (pH (fm l) 1 A) xs))∧ab aU 9=ab lh 9∧aX=sh)
  (cU (fun k st=> ∃(fr:Fr) (O:aE ah),st=⟨fr,O,sh⟩∧aa fr 0=vT∧aa fr 1=lT∧aa fr 2= .i .i64 1∧aa fr 3=kS∧aa fr 9= .ptr .L 9 g 0∧aa fr 14= .i .i64 (k:Int)∧ab O 9=ab lh 9∧
    bh O (aa fr 13) 63 1 k (ints (ft (pH (fm l) 1 A) (xs.take k)))) _ xs.length ?_ ?_ 0 _ (Nat.zero_le _) ⟨fr,lh,rfl,h0,h1,h2,h3,F,K,rfl,by rw[V];exact bh.nil⟩)
 ·rintro k _ RV ⟨fr,O,rfl,h0,h1,h2,h3,F,K,D,I⟩
  left
  rw[W]at D
  have X:(k:Int)<xs.length:=zZ
  have UR:=fP xs
  have hyk:=lH (List.getElem_mem RV)
  have hw:=ba (k:=k) (gk zZ)
  obtain⟨b,cb,rr,Y,eW,te,hb⟩:=mK R hx k RV
  obtain⟨t,ht⟩:=NW U k RV
  have aD:=ih xs[k] (List.getElem_mem RV) t _ hb zZ (yz.1 yI _ (List.getElem_mem RV)) ht
  have Z:=XX I (gk zZ) (sh:=sh) (T.i .i64 (xs[k].val0 (pH (fm l) 1 A))) true
  have iQ:ft (pH (fm l) 1 A) (xs.take (k+1))=ft (pH (fm l) 1 A) (xs.take k)++ [xs[k].val0 (pH (fm l) 1 A)]:=by
   grind [List.take_succ_eq_append_getElem,wY]
  generalize xs[k].val0 (pH (fm l) 1 A)=q at aD Z iQ
  generalize V:aa fr 13=v13 at I Z
  simp only[qA,seval,repl,oa,h0,h1,h2,h3,F,V,K,D,R.lenI,X,Y,hw,aD,TC,eW.froz1,hv.froz,hl.froz,ew.froz,I.notS,Z.1]
  refine⟨_,rfl,_,_,rfl, ?_, ?_, ?_, ?_, ?_, ?_, ?_, ?_⟩
  all_goals first|(simp only[qA,seval,h0,h1,h2,h3,F];done)|skip
  ·grind
  ·simp only[qA,seval]
   grind [Jg]
 ·rintro _ ⟨fr,O,rfl,h0,h1,h2,h3,F,K,D,I⟩
  rw[W]at D
  rw[List.take_length]at I
  simp only[qA,seval,oa,F,K,D,R.lenI,Int.lt_irrefl]
  refine⟨_,_,sy,rfl,rfl, ?_,by rw[D,W],rfl⟩
  simp only[qA,seval]
  exact I
include hcl hlen hA
theorem als(x:Ex):axa l lT vT kS A x:=by
 induction x using Ex.ind with
 |h x ih=>
  intro k cs hx hn yI ht
  obtain⟨a,cc,rfl,ha,RW⟩:=hx.cells
  obtain⟨h1,h2,D,Cf,se,xZ⟩:=u9 yI
  have hnd:=x.nodes_eq
  rw[av aiT (by simp[c57]),Ex.val0_eq]
  by_cases h6:x.op=6
  ·rw[if_pos h6]
   have D:=Iw 1 x.name
   unfold qf at D
   by_cases F:dt 1 x.name=0
   ·rw[if_pos F]at D
    rw[Ex.ty_eq,if_pos h6,if_neg (by simp[jx])]at ht
    unfold NM at ht
    rw[if_neg (by simp[F])]at ht
    rw[←wU]at ht
    obtain⟨i,lO,K,Jh,_⟩:=vd (Nat.le_refl _) ht
    have O:=adP l x.name lT cl hl hcl hlen
    rw[DE Jh]at O
    have e1:=fun kk=>Bg (ts:=sd l l.length) (by rw[kV];exact hv) (k:=i) (by rw[kV];exact K) kk
    have e2:pH (fm l) 1 A x.name=(sd l l.length)[i]'(by rw[kV];exact K):=by
     unfold pH
     rw[(lM 1 x.name).2 F]
     simp_all[VX,vxk,XY,List.take_length,kV]
    rw[e2]
    simp only[qA,seval,c57,h6,F,D,CM,O,atj,hl.froz,e1]
   ·rw[if_neg F]at D
    cases X:Kb 1 x.name with
    |none=>exact absurd ((lM 1 x.name).1 X) F
    |some i=>
     obtain⟨hi,QF⟩:=Q1 X
     have Y:(fq A).length=11:=by unfold fq;rw[List.length_zip,hA.1];rfl
     have Z:(fq A).map Prod.fst=bu:=by unfold fq;exact List.map_fst_zip (by rw[hA.1];exact Nat.le_refl _)
     have R:=NV x.name (fq A) kS (by rw[Y];exact ew) zZ
     rw[Z,QF]at R
     obtain⟨rr,U⟩:=Fq (l:=fq A) (v:=kS) (by rw[Y];exact ew) i zZ
     have wD:(fq A)[i].2=A.getD i 0:=by
      grind [fq]
     rw[wD]at U
     have K:=hA.2 i x.name (LH X)
     have hk1:dt 1 x.name=kq x.name:=rfl
     rw[hk1]at D F
     have aCR:=adO _ _ K (QZ _)
     have e2:pH (fm l) 1 A x.name=A.getD i 0:=by unfold pH;rw[X]
     rw[e2]
     generalize A.getD i 0=q at*
     generalize kq x.name=kk at*
     have aCS:=ew.froz
     simp only[qA,seval,c57,h6,D,CM,R,afb,U,aCR,ati,aCS]
  ·rw[if_neg h6]
   obtain⟨ts,I,hr,hk⟩:=ve ht h6
   have hL:=fun fr lh sh h0 h1 h2 h3 h9 rk di o9=>aCQ l lT vT kS cl A hl hv ew x.args (fun y hy=>ih y hy) a cc ha RW zZ xZ ts I x.op x.num x.name 1 fr lh sh h0 h1 h2 h3 h9 rk di o9
   have hO:=fun fr lh sh h0 h1 h2 h3 h9 rk di o9=>bh.fzV (sh:=sh) (keep:=false) (hL fr lh sh h0 h1 h2 h3 h9 rk di o9).2.1
   have Y:=fP x.args
   have K:=Ji (XF l hA) (scope:=0) (fun s=>jx s) xZ I
   have C2:=vf I
   have Jj:(ft (pH (fm l) 1 A) x.args).length=x.args.length:=by rw[wY,List.length_map]
   by_cases h5:x.op≤5
   ·have nq:x.op=1∨x.op=2∨x.op=3∨x.op=4∨x.op=5:=zZ
    have V:=XZ x.op x.num nq (bG x.args.length (ints (ft (pH (fm l) 1 A) x.args)))
    have W:(if x.op=1∨x.op=2∨x.op=3 then x.num else if x.op=4 then 1 else if x.op=5 then 0 else EY x.op (ft (pH (fm l) 1 A) x.args))=(if x.op=1∨x.op=2∨x.op=3 then x.num else if x.op=4 then 1 else 0):=by
     grind
    rw[W]
    generalize (if x.op=1∨x.op=2∨x.op=3 then x.num else if x.op=4 then 1 else 0)=q at V ⊢
    simp only[qA,seval,c57,GZ,h6,hL,hO,V,afd]
   ·have h7:7≤x.op:=zZ
    have fA:=X1 K h7 h2 (by rw[C2];exact D) hr hk
    have V:=Q2 x.op x.num (ft (pH (fm l) 1 A) x.args) (bG x.args.length (ints (ft (pH (fm l) 1 A) x.args))) (by rw[Jj];exact fj (fun h0=>by rw[h0]at Jj;rw[List.length_eq_zero_iff.1 Jj];rfl)) (by rw[Jj];exact gk zZ) h7 h2 (by rw[Jj];exact D) fA.1
    rw[if_neg zZ,if_neg zZ,if_neg zZ]
    generalize EY x.op (ft (pH (fm l) 1 A) x.args)=q at V ⊢
    simp only[qA,seval,c57,GZ,h6,hL,hO,V,afd]
end
def lN(c:Ct)(A:List Int)(k:Nat):List (List Nat):=((c.ru.take k).filter fun u=>u.sc==1&&decide (oX c.cs A u.x=0)).map Ru.nm
def Cg(l:List (List Nat)):List T:=l.flatMap fun s=> [.i .i64 1,.i .i64 0,.s s]
theorem X3(l:List (List Nat))(s:List Nat):Cg l++ [.i .i64 1,.i .i64 0,.s s]=Cg (l++ [s]):=by unfold Cg;rw[List.flatMap_append];rfl
theorem Q3(c:Ct)(A:List Int){k:Nat}(hk:k<c.ru.length):lN c A (k+1)=if c.ru[k].sc=1∧oX c.cs A c.ru[k].x=0 then lN c A k++ [c.ru[k].nm]else lN c A k:=by
 unfold lN
 rw[List.take_succ_eq_append_getElem hk,List.filter_append,List.map_append]
 by_cases h:c.ru[k].sc=1∧oX c.cs A c.ru[k].x=0
 ·rw[if_pos h];simp[h.1,h.2]
 ·rw[if_neg h]
  have:(c.ru[k].sc==1&&decide (oX c.cs A c.ru[k].x=0))=false:=by
   cases D:(c.ru[k].sc==1&&decide (oX c.cs A c.ru[k].x=0))with
   |false=>rfl
   |true=>exact absurd (by simpa using D) h
  simp[this]
theorem adR(c:Ct)(A:List Int)(k:Nat):(lN c A k).length≤k:=by
 unfold lN
 rw[List.length_map]
 exact Nat.le_trans (List.length_filter_le _ _) (by rw[List.length_take];omega)
theorem IE.ty0{l:Cs}{x:Ex}(h:IE l 1 x):x.nodes≤100000∧x.wf=true∧ ∃k,x.ty (NM (E0 l) 1) 0=(k,0):=by
 obtain⟨_,hv,k,hk⟩:=h
 have:=(ib hv).1
 exact⟨by omega,gz hv,k,by rw[←X4];exact hk⟩
theorem alu{t:Tt}{c:Ct}(hc:eV c=0){A:List Int}(hA:LI A):(lN c A c.ru.length= []↔Dx A (ruS c)=true):=by
 have h1:=(oV c hc).1
 have D: ∀l:List Ru,(∀u∈l,IE c.cs u.sc u.x)→(((l.filter fun u=>u.sc==1&&decide (oX c.cs A u.x=0)).map Ru.nm= [])↔Dx A ((l.filter fun u=>u.sc==1).map fun u=>(u.nm,comp (fm c.cs) u.sc u.x))=true):=by
  intro l
  induction l with
  |nil=>intro _;simp[Dx]
  |cons u l ih=>
   intro h
   have ih:=ih fun v hv=>h v (by simp[hv])
   by_cases hs:u.sc=1
   ·have hx:=h u zP
    rw[hs]at hx
    have hv:=(ali hA hx).2.1
    have e1:((u::l).filter fun u=>u.sc==1).map (fun u=>(u.nm,comp (fm c.cs) u.sc u.x))=(u.nm,comp (fm c.cs) 1 u.x)::(l.filter fun u=>u.sc==1).map fun u=>(u.nm,comp (fm c.cs) u.sc u.x):=by simp[hs]
    rw[e1,show Dx A ((u.nm,comp (fm c.cs) 1 u.x)::(l.filter fun u=>u.sc==1).map fun u=>(u.nm,comp (fm c.cs) u.sc u.x))=(decide ((comp (fm c.cs) 1 u.x).val A≠0)&&Dx A ((l.filter fun u=>u.sc==1).map fun u=>(u.nm,comp (fm c.cs) u.sc u.x)))from rfl,hv]
    by_cases F:oX c.cs A u.x=0
    ·simp[hs,F]
    ·have e2:((u::l).filter fun u=>u.sc==1&&decide (oX c.cs A u.x=0))=l.filter fun u=>u.sc==1&&decide (oX c.cs A u.x=0):=by simp[F]
     rw[e2,ih]
     simp[F]
   ·have e1:((u::l).filter fun u=>u.sc==1)=l.filter fun u=>u.sc==1:=by simp[hs]
    have e2:((u::l).filter fun u=>u.sc==1&&decide (oX c.cs A u.x=0))=l.filter fun u=>u.sc==1&&decide (oX c.cs A u.x=0):=by simp[hs]
    rw[e1,e2,ih]
 have:=D c.ru h1
 unfold lN ruS vL
 rw[List.take_length]
 exact this
section
variable(c:Ct)(a7 a8 a9 aw aA az vT kS:T)(A:List Int)(hC:kP c a7 a8 a9 aw aA az)(hS:qh c)(hc:eV c=0)(hv:IsSl vT c.cs.length (ints (sd c.cs c.cs.length)))(hA:LI A)(ew:IsSl kS 11 (jo (fq A)))
include hC hc hv hA ew
theorem LL{x:Ex}(hx:IE c.cs 1 x){cs:List T}(h:gr x cs):ae pE 57 [vT,a7,.i .i64 1,kS,.agg cs] []=some (.i .i64 (oX c.cs A x),[]):=by
 obtain⟨⟨c7,D,F⟩,_⟩:=hC
 obtain⟨I,K,k,O⟩:=hx.ty0
 have:=(oV c hc).2.2.2.2.2.2
 exact als c.cs a7 vT kS c7 A D F (gk zZ) hv hA ew x k cs h I K O
theorem aCT(fr:Fr)(lh:aE ah)(sh:List ah)(h1:aa fr 1= .i .i64 1)(h2:aa fr 2= .i .i64 0)(h3:aa fr 3=kS)(h4:aa fr 4= .ptr .L 4 1 0)(h9:aa fr 9= .nilsl)(D:aa fr 10=vT)(F:aa fr 11= .i .i64 0)(I:ab lh 4=⟨1,.cells (aV c a7 a8 a9 aw aA az) 0 true⟩):
  uL 52 kE fr lh sh (.ext 0)∧
  (bh (iu pE 52 kE fr lh sh) (aa (pz pE 52 kE fr lh sh) 9) 50 3 (lN c A c.ru.length).length (Cg (lN c A c.ru.length))∧jw pE 52 kE fr lh sh=sh):=by
 have hC':=hC
 obtain⟨⟨c7,i7,j7⟩,⟨c8,V,j8⟩,⟨c9,i9,j9⟩,⟨ti,i10,ye⟩,⟨Gv,i11,BG⟩,⟨Kd,i12,Dr⟩⟩:=hC'
 obtain⟨kN,hl,_⟩:=oV c hc
 unfold aV at I
 refine gI (fun k st=> ∃(fr:Fr) (lh:aE ah),st=⟨fr,lh,sh⟩∧aa fr 1= .i .i64 1∧aa fr 2= .i .i64 0∧aa fr 3=kS∧aa fr 4= .ptr .L 4 1 0∧aa fr 10=vT∧aa fr 11= .i .i64 (k:Int)∧ab lh 4=⟨1,.cells [.i .i64 c.rp,.i .i64 c.rl,.i .i64 c.cn,.i .i64 c.st,.i .i64 c.ly,.i .i64 c.nf,.i .i64 c.nt,a7,a8,a9,aw,aA,az,.i .i64 c.gu] 0 true⟩∧bh lh (aa fr 9) 50 3 (lN c A k).length (Cg (lN c A k)))
  (fun cK aU W=>bh aU (aa cK 9) 50 3 (lN c A c.ru.length).length (Cg (lN c A c.ru.length))∧W=sh) _ c.ru.length ?_ ?_ fr lh sh ⟨fr,lh,rfl,h1,h2,h3,h4,D,F,I,by rw[h9];exact bh.nil⟩
 ·rintro k _ hk ⟨fr,lh,rfl,h1,h2,h3,h4,D,F,I,O⟩
  have R:(k:Int)<c.ru.length:=zZ
  have hw:=aG (k:=k) zZ
  obtain⟨b,cb,rr,U,eW,hb⟩:=xP V j8 k hk
  have hx:=kN _ (List.getElem_mem hk)
  have rF:=adR c A k
  have iQ:=Q3 c A hk
  have Z:=fun e:c.ru[k].sc=1=>LL c a7 a8 a9 aw aA az vT kS A hC hc hv hA ew (e▸hx) hb
  rw[iQ]
  generalize oX c.cs A c.ru[k].x=q at*
  generalize c.ru[k]=u at*
  have fA:=fun(aU:aE ah) (W:List ah) (e:ab aU 50=ab lh 50)=>(dV (sh:=W) (O.congr e) [.i .i64 1,.i .i64 0,.s u.nm] rfl (bytes:=32) (by unfold roomy;omega) true)
  have X:=fun(aU:aE ah) (W:List ah) (e:ab aU 50=ab lh 50)=>(fA aU W e).1
  have nY:=O.notS
  generalize K:aa fr 9=v9 at O fA X nY
  have hz:=ew.froz
  have Y:=hv.froz
  by_cases hs:u.sc=1
  ·have Z:=Z hs
   by_cases hq:q=0
   ·rw[if_pos ⟨hs,hq⟩]
    simp only[qA,seval,repl,kE,h1,h2,h3,h4,K,D,F,I,V.lenI,R,hw,U,hs,Z,hq,hz,Y,i7.froz,eW.froz1,nY,X,TC]
    exact fN ⟨_,_,rfl,by simp only[qA,seval,h1],by simp only[qA,seval,h2],by simp only[qA,seval,h3],by simp only[qA,seval,h4],by simp only[qA,seval,D],by simp only[qA,seval],by rw[(fA _ _ yW).2.2 4 zz];simp only[qA,seval,I],by simp only[qA,seval];rw[List.length_append,←X3];exact(fA _ _ yW).2.1⟩
   ·rw[if_neg (fun h=>hq h.2)]
    simp only[qA,seval,repl,kE,h1,h2,h3,h4,K,D,F,I,V.lenI,R,hw,U,hs,Z,hq,hz,Y,i7.froz,eW.froz1,TC]
    exact fN ⟨_,_,rfl,by simp only[qA,seval,h1],by simp only[qA,seval,h2],by simp only[qA,seval,h3],by simp only[qA,seval,h4],by simp only[qA,seval,D],by simp only[qA,seval],by simp only[qA,seval,I],by simp only[qA,seval,K];exact O.congr yW⟩
  ·rw[if_neg (fun h=>hs h.1)]
   simp only[qA,seval,repl,kE,h1,h2,h4,K,F,I,V.lenI,R,hw,U,hs]
   exact fN ⟨_,_,rfl,by simp only[qA,seval,h1],by simp only[qA,seval,h2],by simp only[qA,seval,h3],by simp only[qA,seval,h4],by simp only[qA,seval,D],by simp only[qA,seval],by simp only[qA,seval,I],by simp only[qA,seval,K];exact O.congr yW⟩
 ·rintro _ ⟨fr,lh,rfl,h1,h2,h3,h4,D,F,I,O⟩
  simp only[qA,seval,kE,h4,F,I,V.lenI,Int.lt_irrefl]
  exact jZ ⟨rfl,by simp only[qA,seval];exact O,rfl⟩
end
theorem ctZ{c:Ct}{a7 a8 a9 aw aA az:T}(hC:kP c a7 a8 a9 aw aA az):(froz1 a7=true∧froz1 a8=true∧froz1 a9=true∧froz1 aw=true∧froz1 aA=true∧froz1 az=true)∧cellsOf a7= [a7]∧cellsOf a8= [a8]∧cellsOf a9= [a9]∧cellsOf aw= [aw]∧cellsOf aA= [aA]∧cellsOf az= [az]∧froz a7=true:=by
 obtain⟨⟨_,K,_⟩,⟨_,O,_⟩,⟨_,R,_⟩,⟨_,D,_⟩,⟨_,F,_⟩,⟨_,I,_⟩⟩:=hC
 exact⟨⟨K.froz1,O.froz1,R.froz1,D.froz1,F.froz1,I.froz1⟩,K.cells,O.cells,R.cells,D.cells,F.cells,I.cells,K.froz⟩
section
variable(c:Ct)(a7 a8 a9 aw aA az kS:T)(A:List Int)(hC:kP c a7 a8 a9 aw aA az)(hS:qh c)(hc:eV c=0)(hA:LI A)(ew:IsSl kS 11 (jo (fq A)))
include hC hS hc
theorem Fs:ae pE 56 [a7] []=some (bG c.cs.length (ints (sd c.cs c.cs.length)),[])∧IsSl (bG c.cs.length (ints (sd c.cs c.cs.length))) c.cs.length (ints (sd c.cs c.cs.length)):=by
 obtain⟨⟨c7,D,F⟩,_⟩:=hC
 have:=(oV c hc).2.2.2.2.2.2
 refine⟨Q4 c.cs a7 c7 D F hS.b7,fj fun h=> ?_⟩
 grind [ints,List.length_eq_zero_iff.1,kV]
include hA ew
theorem adS:ae pE 203 [.agg (aV c a7 a8 a9 aw aA az),.i .i64 1,.i .i64 0,kS] []=some (bG (lN c A c.ru.length).length (Cg (lN c A c.ru.length)),[]):=by
 obtain⟨hk,hv⟩:=Fs c a7 a8 a9 aw aA az hC hS hc
 have hL:=fun fr lh sh h1 h2 h3 h4 I D F K=>aCT c a7 a8 a9 aw aA az _ kS A hC hc hv hA ew fr lh sh h1 h2 h3 h4 I D F K
 have O:=fun keep fr lh sh h1 h2 h3 h4 I D F K=>bh.fzV (keep:=keep) (sh:=sh) (hL fr lh sh h1 h2 h3 h4 I D F K).2.1
 have R:=ctZ hC
 generalize bG c.cs.length (ints (sd c.cs c.cs.length))=vT at*
 unfold aV at*
 rw[av af3 (by simp[S1])]
 simp only[qA,seval,S1,hk,R,hL,O,AK,aiS]
omit hS in
theorem aCV(vT:T)(hv:IsSl vT c.cs.length (ints (sd c.cs c.cs.length)))(fr:Fr)(lh:aE ah)(sh:List ah)(h1:aa fr 1= .i .i64 1)(h2:aa fr 2=kS)(h3:aa fr 3= .ptr .L 3 1 0)(D:aa fr 7= .i .i64 0)(F:aa fr 8=vT)(I:aa fr 9= .i .i64 0)(R:ab lh 3=⟨1,.cells (aV c a7 a8 a9 aw aA az) 0 true⟩):
  uL 43 oi fr lh sh (.ext 0)∧
  (aa (pz pE 43 oi fr lh sh) 7= .i .i64 (my A (coS c))∧jw pE 43 oi fr lh sh=sh):=by
 have V:=hC
 obtain⟨⟨c7,Z,j7⟩,⟨c8,i8,j8⟩,⟨c9,U,j9⟩,⟨ti,i10,ye⟩,⟨Gv,i11,BG⟩,⟨Kd,i12,Dr⟩⟩:=V
 obtain⟨_,_,kN,hl,_⟩:=oV c hc
 unfold aV at R
 unfold coS
 refine gI (fun k st=> ∃(fr:Fr),st=⟨fr,lh,sh⟩∧aa fr 1= .i .i64 1∧aa fr 2=kS∧aa fr 3= .ptr .L 3 1 0∧aa fr 7= .i .i64 (my A (tf c 1 k))∧aa fr 8=vT∧aa fr 9= .i .i64 (k:Int))
  (fun cK aU aX=>aa cK 7= .i .i64 (my A (tf c 1 c.co.length))∧aX=sh) _ c.co.length ?_ ?_ fr lh sh ⟨fr,rfl,h1,h2,h3,D,F,I⟩
 ·rintro k _ hk ⟨fr,rfl,h1,h2,h3,D,F,I⟩
  have K:(k:Int)<c.co.length:=zZ
  have Y:=aG (k:=k) zZ
  obtain⟨b,cb,rr,O,eW,hb⟩:=AY U j9 k hk
  have hx:=kN _ (List.getElem_mem hk)
  have iQ:my A (tf c 1 (k+1))=if c.co[k].sc=1 then wr .i64 (my A (tf c 1 k)+oX c.cs A c.co[k].x)else my A (tf c 1 k):=by
   rw[uS c 1 hk]
   by_cases e:c.co[k].sc=1
   ·rw[if_pos e,if_pos e]
    unfold my
    rw[List.map_append,I6,List.map_cons,List.map_nil,Fj,Fj]
    rw[e,(ali hA (e▸hx)).2.1]
   ·grind
  have W:=fun e:c.co[k].sc=1=>LL c a7 a8 a9 aw aA az vT kS A hC hc hv hA ew (e▸hx) hb
  rw[iQ]
  generalize oX c.cs A c.co[k].x=q at*
  generalize my A (tf c 1 k)=p at*
  generalize c.co[k]=u at*
  have hz:=ew.froz
  have X:=hv.froz
  by_cases hs:u.sc=1
  ·have W:=W hs
   rw[if_pos hs]
   simp only[qA,seval,bj,aH,oi,h1,h2,h3,D,F,I,R,U.lenI,K,Y,O,hs,W,hz,X,Z.froz,eW.froz1,TC,asN]
   exact fN ⟨_,rfl,by simp only[qA,seval,h1],by simp only[qA,seval,h2],by simp only[qA,seval,h3],by simp only[qA,seval],by simp only[qA,seval,F],by simp only[qA,seval]⟩
  ·rw[if_neg hs]
   simp only[qA,seval,bj,aH,oi,h1,h2,h3,D,F,I,R,U.lenI,K,Y,O,hs]
   exact fN ⟨_,rfl,by simp only[qA,seval,h1],by simp only[qA,seval,h2],by simp only[qA,seval,h3],by simp only[qA,seval,D],by simp only[qA,seval,F],by simp only[qA,seval]⟩
 ·rintro _ ⟨fr,rfl,h1,h2,h3,D,F,I⟩
  simp only[qA,seval,oi,h3,I,R,U.lenI,Int.lt_irrefl]
  exact jZ ⟨rfl,by simp only[qA,seval,D],rfl⟩
theorem X6:ae pE 206 [.agg (aV c a7 a8 a9 aw aA az),.i .i64 1,kS] []=some (.i .i64 (my A (coS c)),[]):=by
 obtain⟨hk,hv⟩:=Fs c a7 a8 a9 aw aA az hC hS hc
 have hL:=fun fr lh sh h1 h2 h3 D F I K=>aCV c a7 a8 a9 aw aA az kS A hC hc hA ew _ hv fr lh sh h1 h2 h3 D F I K
 have O:=ctZ hC
 generalize bG c.cs.length (ints (sd c.cs c.cs.length))=vT at*
 generalize my A (coS c)=q at*
 unfold aV at*
 rw[av af8 (by simp[S4])]
 simp only[qA,seval,S4,hk,O,hL,aiS]
theorem LM:ae pE 207 [.agg (aV c a7 a8 a9 aw aA az),kS] []=some (.i .i64 (xR A (crS c)),[]):=by
 obtain⟨hk,hv⟩:=Fs c a7 a8 a9 aw aA az hC hS hc
 have hz:=ctZ hC
 have F:=ew.froz
 have R:=hv.froz
 have U:=hC
 obtain⟨⟨c7,i7,j7⟩,⟨c8,i8,j8⟩,⟨c9,i9,j9⟩,⟨ti,I,ye⟩,⟨Gv,i11,BG⟩,⟨Kd,i12,Dr⟩⟩:=U
 have K:=I.lenI
 have kN:=(oV c hc).2.2.2.2.1
 rw[av af9 (by simp[Ph])]
 unfold crS RO
 rw[List.take_length]
 by_cases Y:c.cr= []
 ·rw[Y]at K ⊢
  have K:lenI aw=some (.i .i64 0):=K
  have Z:(fq A).length=11:=by unfold fq;rw[List.length_zip,hA.1];rfl
  have V:(fq A).map Prod.fst=bu:=by unfold fq;exact List.map_fst_zip (by rw[hA.1];exact Nat.le_refl _)
  have O:=NV [98,108,111,99,107] (fq A) kS (by rw[Z];exact ew) zZ
  rw[V,show ixA [98,108,111,99,107] bu 0=3 by decide]at O
  obtain⟨rr,D⟩:=Fq (l:=fq A) (v:=kS) (by rw[Z];exact ew) 3 zZ
  have wD:(fq A)[3].2=A.getD 3 0:=by
   grind [fq]
  rw[wD]at D
  have D: ∀kk,iaV kS (.i kk 3) 2=_:=D
  unfold xR aV
  simp only[List.map_nil]
  simp only[qA,seval,Ph,K,O,D,F,afb]
 ·obtain⟨x,l,W⟩: ∃x l,c.cr=x::l:=List.exists_cons_of_ne_nil Y
  have h0:0<c.cr.length:=by rw[W];simp
  obtain⟨b,cb,rr,D,eW,te,hb⟩:=mK I ye 0 h0
  have hx:=kN _ (List.getElem_mem h0)
  have aD:=LL c a7 a8 a9 aw aA az _ kS A hC hc hv hA ew hx hb
  have hcv:=(ali hA hx).2.1
  have D: ∀kk,iaV aw (.i kk 0) 4=_:=D
  have X: ¬(c.cr.length:Int)=0:=zZ
  have e:xR A (c.cr.map fun u=>([],comp (fm c.cs) 1 u))=oX c.cs A c.cr[0]:=by
   grind [xR]
  rw[e]
  generalize oX c.cs A c.cr[0]=q at*
  generalize c.cr[0]=y at*
  generalize bG c.cs.length (ints (sd c.cs c.cs.length))=vT at*
  unfold aV
  simp only[qA,seval,bj,aH,Ph,K,X,hk,D,aD,hz,F,R,eW.froz1,aiS,aAI,TC,asN]
end
def dE(t:Tt)(c:Ct)(d:List (Int×Bool)):Int:=if eb t c≠0 then eb t c else fx c t.fl d
theorem adT(t:Tt)(c:Ct)(d:List (Int×Bool)):QV t c d=if dE t c d≠0 then(QU,dE t c d)else if jm t c d=true then(cD t c d,0)else(QU,15):=by
 grind [QV,alj,dE]
section
variable(t:Tt)(c:Ct)(zT aT fT a7 a8 a9 aw aA az:T)(hT:ky t zT aT fT)(hC:kP c a7 a8 a9 aw aA az)(hN:Ds c)(hL: ∀f∈t.fl,f.nu.length≤fX)(d:List (Int×Bool))(dT:T)(hd:uX d dT)(hlen:d.length≤1000)
include hT hC hN hL hd hlen
theorem X7(h:dE t c d=0):pG t=0∧eV c=0∧qh c∧1≤d.length∧d.length≤6∧(∀k∈d,lK t.fl.length k.1=true):=by
 have _:=hL;have _:=hd;have _:=hlen
 unfold dE at h
 by_cases hk:eb t c=0
 ·rw[if_neg (by simp[hk])]at h
  obtain⟨ht,hc⟩:=Fa t c zT aT fT a7 a8 a9 aw aA az hT hC hN hk
  obtain⟨h1,h2,h3,_⟩:=kU h
  exact⟨ht,hc,hN.sm (Du c a7 a8 a9 aw aA az hC hc),h1,h2,h3⟩
 ·grind
theorem adU: ∃v,ae pE 122 [.agg [zT,aT,fT],.agg (aV c a7 a8 a9 aw aA az),dT] []=some (.tup [v,.i .i64 (dE t c d)],[])∧froz1 v=true∧(dE t c d=0→ ∃n:Nat,lenI v=some (.i .i64 (n:Int))∧(n=0↔jm t c d=true)):=by
 have I:=Dt t c zT aT fT a7 a8 a9 aw aA az hT hC
 have D:=hd.sl.froz
 obtain⟨w,h1,h2,h3⟩:=NU t c zT aT fT a7 a8 a9 aw aA az hT hC hN hL d dT hd hlen
 rw[show(if eb t c≠0 then eb t c else fx c t.fl d)=dE t c d from rfl]at h1 h2
 by_cases h0:dE t c d=0
 ·obtain⟨ht,hc,hS,K,U,O⟩:=X7 t c zT aT fT a7 a8 a9 aw aA az hT hC hN hL d dT hd hlen h0
  have hA:=I5 (t:=t) (c:=c) ht hc K zZ O
  have hv:=adS c a7 a8 a9 aw aA az (.sl (jo (fq (eo t c d))) 11 false) (eo t c d) hC hS hc hA (.inr ⟨false,rfl⟩)
  have R:=alu (t:=t) hc hA
  rw[h2 h0]at h1
  rw[h0]at h1 ⊢
  refine⟨bG (lN c (eo t c d) c.ru.length).length (Cg (lN c (eo t c d) c.ru.length)), ?_, ?_,fun _=>⟨(lN c (eo t c d) c.ru.length).length, ?_, ?_⟩⟩
  ·have F:froz1 (bG (lN c (eo t c d) c.ru.length).length (Cg (lN c (eo t c d) c.ru.length)))=true:=by unfold bG;split <;> rfl
   rw[av TH (by simp[Kn])]
   generalize bG (lN c (eo t c d) c.ru.length).length (Cg (lN c (eo t c d) c.ru.length))=vo at*
   unfold aV at*
   simp only[qA,seval,Kn,h1,hv,I,D,F,MH,aud]
  ·unfold bG;split <;> rfl
  ·unfold bG;split
   ·rename_i e;rw[e];rfl
   ·rfl
  ·rw[List.length_eq_zero_iff,R];exact Iff.rfl
 ·refine⟨.nilsl, ?_,rfl,fun h=>absurd h h0⟩
  generalize dE t c d=e at*
  rw[av TH (by simp[Kn])]
  unfold aV at*
  simp only[qA,seval,Kn,h1,h0,I,D,MH]
theorem alv(h0:dE t c d=0):ae pE 124 [.agg [zT,aT,fT],.agg (aV c a7 a8 a9 aw aA az),dT] []=some (.tup [.i .i64 (my (eo t c d) (coS c)),.i .i64 0],[])∧ae pE 125 [.agg [zT,aT,fT],.agg (aV c a7 a8 a9 aw aA az),dT] []=some (.tup [.i .i64 (xR (eo t c d) (crS c)),.i .i64 0],[]):=by
 have F:=Dt t c zT aT fT a7 a8 a9 aw aA az hT hC
 have D:=hd.sl.froz
 obtain⟨w,h1,h2,h3⟩:=NU t c zT aT fT a7 a8 a9 aw aA az hT hC hN hL d dT hd hlen
 rw[show(if eb t c≠0 then eb t c else fx c t.fl d)=dE t c d from rfl]at h1 h2
 obtain⟨ht,hc,hS,I,O,K⟩:=X7 t c zT aT fT a7 a8 a9 aw aA az hT hC hN hL d dT hd hlen h0
 have hA:=I5 (t:=t) (c:=c) ht hc I zZ K
 have hv:=X6 c a7 a8 a9 aw aA az (.sl (jo (fq (eo t c d))) 11 false) (eo t c d) hC hS hc hA (.inr ⟨false,rfl⟩)
 have hr:=LM c a7 a8 a9 aw aA az (.sl (jo (fq (eo t c d))) 11 false) (eo t c d) hC hS hc hA (.inr ⟨false,rfl⟩)
 rw[h2 h0]at h1
 rw[h0]at h1
 generalize my (eo t c d) (coS c)=q at*
 generalize xR (eo t c d) (crS c)=q2 at*
 generalize jo (fq (eo t c d))=AC at*
 unfold aV at*
 refine⟨?_, ?_⟩
 ·rw[av afk (by simp[Sw])]
  simp only[qA,seval,Sw,h1,hv,F,D,MH,aue]
 ·rw[av afl (by simp[Sx])]
  simp only[qA,seval,Sx,h1,hr,F,D,MH,auf]
theorem adV: ∃v,ae pE 67 [.agg [zT,aT,fT],.agg (aV c a7 a8 a9 aw aA az),dT] []=some (.tup [.agg (Fk (QV t c d).1 v),.i .i64 (QV t c d).2],[])∧LgT (QV t c d).1 v:=by
 have I:=Dt t c zT aT fT a7 a8 a9 aw aA az hT hC
 have D:=hd.sl.froz
 obtain⟨w,h1,h2,h3⟩:=adU t c zT aT fT a7 a8 a9 aw aA az hT hC hN hL d dT hd hlen
 rw[adT]
 by_cases h0:dE t c d=0
 ·rw[if_neg (by simp[h0])]
  obtain⟨ht,hc,hS,Y,g2,Z⟩:=X7 t c zT aT fT a7 a8 a9 aw aA az hT hC hN hL d dT hd hlen h0
  obtain⟨n,h4,h5⟩:=h3 h0
  rw[h0]at h1
  by_cases K:jm t c d=true
  ·have O:=h5.2 K
   subst O
   rw[if_pos K]
   have h4:lenI w=some (.i .i64 0):=h4
   obtain⟨k1,k2⟩:=alv t c zT aT fT a7 a8 a9 aw aA az hT hC hN hL d dT hd hlen h0
   have R:=Je t c zT aT fT a7 a8 a9 aw aA az hT hC ht hc d dT hd Y zZ Z
   obtain⟨i,j,r1,r2,hi,hj,ef,eg,ha,hb⟩:=XJ t zT aT fT hT ht d dT hd Y zZ Z
   obtain⟨fc,f1,f2⟩:=hT.f
   obtain⟨r3,GD⟩:=mr f1 f2 i hi
   obtain⟨r4,F⟩:=mr f1 f2 j hj
   rw[←ef]at GD
   rw[←eg]at F
   have hw:=kR (k:=d.length) zZ zZ
   have eQ:=hd.sl.lenI
   have U:=fun lh sh=>hd.sl.slC (lh:=lh) (sh:=sh) (mz d)
   have Kc:d.length*16≤roomy:=by unfold roomy;omega
   have RX:=mz d
   have V:isNe dT=true:=by
    rcases hd.sl with⟨_,h,_⟩|⟨ex,rfl⟩
    ·omega
    ·cases hq:d.length with
     |zero=>omega
     |succ m=>rfl
   obtain⟨m,hm⟩: ∃m,d.length=m+1:=⟨d.length-1,by omega⟩
   have fA: ∀lh sh,appW lh sh 49 2 16 .nilsl dT=some (.isl .L 49 ((ab lh 49).g+1) 0 d.length 2,iR lh 49 ⟨(ab lh 49).g+1,.cells (lP d) 0 false⟩):=fun lh sh=>by
    unfold appW
    rw[U,Option.bind_some,hm,Ay,if_pos (by rw[←hm];exact Kc)]
   have W:d.length*2≤(lP d).length:=zZ
   have X:List.take (d.length*2) (lP d)=lP d:=List.take_of_length_le zZ
   refine⟨.sl (lP d) d.length false, ?_,.inr ⟨false,rfl⟩⟩
   unfold cD Fk at*
   simp only
   generalize tg c (eA t.fl d 0)=x1 at*
   generalize th c (eA t.fl d (d.length-1))=x2 at*
   generalize my (eo t c d) (coS c)=x5 at*
   generalize xR (eo t c d) (crS c)=x6 at*
   generalize eA t.fl d 0=f at*
   generalize eA t.fl d (d.length-1)=g at*
   unfold aV at*
   rw[av aaC (by simp[c67])]
   simp only[qA,seval,bj,AJ,aH,fC,c67,h1,h4,k1,k2,R,ha,hb,GD,F,hw,eQ,V,fA,W,X,I,D,Int.lt_irrefl,TI,afj,att,atu]
  ·rw[if_neg K]
   have O:(0:Int)<(n:Int):=by
    grind
   refine⟨.nilsl, ?_,.inl ⟨rfl,rfl,rfl⟩⟩
   unfold Fk QU aV at*
   rw[av aaC (by simp[c67])]
   simp only[qA,seval,c67,h1,h4,O,I,D,TI]
 ·rw[if_pos h0]
  refine⟨.nilsl, ?_,.inl ⟨rfl,rfl,rfl⟩⟩
  generalize dE t c d=e at*
  unfold Fk QU aV at*
  rw[av aaC (by simp[c67])]
  simp only[qA,seval,c67,h1,h0,I,D,TI]
end
end Go.Proofs.YtnkgnjecmfkcfaaGreat
namespace Go.Proofs.YtnkgnjecmfkcfaaGreat
open Go.Ev
def Sm:Nat→(Nat→Nat)→Nat
 |0,_=>0
 |n+1,f=>Sm n f+f n
theorem vg{f g:Nat→Nat}: ∀{n:Nat},(∀i,i<n→f i=g i)→Sm n f=Sm n g
 |0,_=>rfl
 |n+1,h=>by rw[Sm,Sm,vg (fun i hi=>h i zZ),h n zZ]
theorem X8(f g:Nat→Nat): ∀n,Sm n (fun i=>f i+g i)=Sm n f+Sm n g
 |0=>rfl
 |n+1=>by simp only[Sm,X8 f g n];omega
theorem NX: ∀n,Sm n (fun _=>0)=0
 |0=>rfl
 |n+1=>by rw[Sm,NX n]
theorem NY(f:Nat→Nat→Nat)(m:Nat): ∀n,Sm n (fun i=>Sm m fun j=>f i j)=Sm m fun j=>Sm n fun i=>f i j
 |0=>by simp only[Sm,NX]
 |n+1=>by simp only[Sm,NY f m n];rw[←X8]
theorem Jk(f:Nat→Nat): ∀n,Sm (n+1) f=f 0+Sm n fun i=>f (i+1)
 |0=>by simp[Sm]
 |n+1=>by rw[Sm,Jk f n,Sm];omega
def cv(p q:Nat→Nat)(h:Nat):Nat:=Sm (h+1) fun i=>p i*q (h-i)
def sf(p:Nat→Nat):Nat→Nat
 |0=>0
 |h+1=>p h
def LN:Nat→Nat
 |0=>1
 |_+1=>0
section
variable(N:Nat)(J:Nat→Nat→Bool)(ch:Nat→Bool)
def sW(b:Bool):Nat:=if b then 1 else 0
def stp(g:Nat)(p:Nat→Nat)(h:Nat):Nat:=sW (ch g)*p h+sf p h
def cA:Nat→Nat→Nat→Nat
 |0,_,_=>0
 |1,g,h=>stp ch g LN h
 |k+2,g,h=>stp ch g (fun h=>Sm N fun f=>sW (J f g)*cA (k+1) f h) h
def cB:Nat→Nat→Nat→Nat
 |0,_,_=>0
 |1,i,h=>stp ch i LN h
 |k+2,i,h=>stp ch i (fun h=>Sm N fun j=>sW (J i j)*cB (k+1) j h) h
def cC(k f h:Nat):Nat:=match k with|0=>LN h|k+1=>Sm N fun j=>sW (J f j)*cB N J ch (k+1) j h
theorem ahE(k i h:Nat):cB N J ch (k+1) i h=stp ch i (fun h=>cC N J ch k i h) h:=by
 cases k <;> rfl
end
section
variable(N H:Nat)(J:Nat→Nat→Bool)(ch:Nat→Bool)
def jN(f:Nat):List Nat:=(List.range N).filter fun g=>J f g
def Csu(n:Nat→Nat→Nat):Nat:=Sm (H+1) fun h=>Sm N fun g=>n h g
end
def jn(c:Ct)(l:List Fl)(i j:Nat):Bool:=match l[i]?,l[j]? with
 |some x,some y=>yf c x y
 |_,_=>false
theorem NZ{c:Ct}{l:List Fl}{i j:Nat}(hi:i<l.length)(D:j<l.length):jn c l i j=yf c l[i] l[j]:=by
 unfold jn;rw[List.getElem?_eq_getElem hi,List.getElem?_eq_getElem D]
theorem Ft(J:Nat→Bool)(k:Nat):(List.range (k+1)).filter J=if J k then(List.range k).filter J++ [k]else(List.range k).filter J:=by
 rw[List.range_succ,List.filter_append]
 by_cases h:J k=true <;> simp[h]
theorem Fu(J:Nat→Bool)(k:Nat):((List.range k).filter J).length≤k:=by
 have:=List.length_filter_le J (List.range k)
 rwa [List.length_range]at this
section
variable(zT aT fT a7 a8 a9 aw aA az:T)(c:Ct)(uc fc:List T)(l:List Fl)(hf:IsSl fT l.length fc)(hr:aC RR l fc)(hN:l.length≤1000)
include hf hr hN
def CO(s:List ah)(v:T)(r:List Nat):Prop:=(r= []∧v= .nilsl)∨r≠ []∧ ∃k g,v= .isl .S k g 0 r.length 1∧k<s.length∧aI s k=⟨g,.cells (ints (r.map Int.ofNat)) 0 false⟩
omit hf hr hN in
theorem CO.mono{s:List ah}{v:T}{r:List Nat}(h:CO s v r)(x:List ah):CO (s++x) v r:=by
 rcases h with h|⟨h0,k,g,h1,h2,h3⟩
 ·exact .inl h
 ·exact .inr ⟨h0,k,g,h1,by rw[List.length_append];omega,by rw[rj h2];exact h3⟩
def COs(s:List ah):List T→List (List Nat)→Prop
 | [],[]=>True
 |v::D,r::rs=>CO s v r∧COs s D rs
 |_,_=>False
omit hf hr hN in
theorem COs.mono{s:List ah}(x:List ah): ∀{D:List T} {rs:List (List Nat)},COs s D rs→COs (s++x) D rs
 | [],[],_=>trivial
 |_::_,_::_,h=>⟨h.1.mono x,h.2.mono x⟩
omit hf hr hN in
theorem COs.len{s:List ah}: ∀{D:List T} {rs:List (List Nat)},COs s D rs→D.length=rs.length
 | [],[],_=>rfl
 |_::_,_::_,g=>by rw[List.length_cons,List.length_cons,g.2.len]
def pO(r:List Nat):T:=if r= []then .nilsl else .sl (ints (r.map Int.ofNat)) r.length false
omit hf hr hN in
theorem CO.fz{s:List ah}{v:T}{r:List Nat}{lh:aE ah}{m:Nat}(h:CO s v r): ∃us,(fz false (m+1) v).run (St.mk .nil lh s).get s.length=some (pO r,us):=by
 rcases h with⟨rfl,rfl⟩|⟨h0,k,g,rfl,h2,h3⟩
 ·exact⟨_,rfl⟩
 ·unfold Ev.fz
  have ZV:(St.mk .nil lh s).get .S k=aI s k:=rfl
  simp only[Bool.false_and,Bool.false_eq_true,if_false,Q.run,ZV,h3,if_true]
  have e1:(ints (r.map Int.ofNat)).length=r.length:=by rw[dR,List.length_map]
  rw[if_pos zZ]
  refine⟨_,congrArg some (Prod.ext ?_ rfl)⟩
  show T.sl _ _ _=_
  rw[List.drop_zero,Nat.mul_one,List.take_of_length_le zZ]
  unfold pO
  rw[if_neg h0]
omit hf hr hN in
theorem COs.fz{s:List ah}{lh:aE ah}{m:Nat}: ∀{D:List T} {rs:List (List Nat)},COs s D rs→ ∃us,(bf (Ev.fz false (m+1)) D).run (St.mk .nil lh s).get s.length=some (rs.map pO,us)
 | [],[],_=>⟨_,rfl⟩
 |v::D,r::rs,h=>by
  obtain⟨F,e1⟩:=h.1.fz (lh:=lh) (m:=m)
  obtain⟨I,e2⟩:=h.2.fz (lh:=lh) (m:=m)
  simp only[bf,bp,e1,e2,Option.bind_some,Q.run,List.map_cons]
  exact⟨_,rfl⟩
end
def iw(ops:List Int)(f:Nat):Bool:=decide ((f:Int)∈ops)
theorem X9(N:Nat)(ops:List Int)(f:Nat)(hf:f<N): ∃q,∀kk,iaV (.sl (wX (inB N ops)) N false) (.i kk (f:Int)) 1=some (.vp (.b (iw ops f)::q)):=by
 refine⟨(wX (inB N ops)).drop (f+1),fun kk=> ?_⟩
 rw[cT,if_pos ⟨by omega,by simpa using hf,by rw[uZ];simp;omega⟩,Int.toNat_natCast,Nat.mul_one,List.drop_eq_getElem_cons (by rw[uZ];exact hf)]
 refine congrArg some (congrArg T.vp (congrArg (· ::_) ?_))
 simp[wX,inB,iw]
section
variable(zT aT fT a7 a8 a9 aw aA az:T)(c:Ct)(uc fc:List T)(l:List Fl)(hf:IsSl fT l.length fc)(hr:aC RR l fc)(hN:l.length≤1000)
include hf hr hN
end
def gH(n:Nat):Int:=wr .i64 (n:Int)
theorem wrap64(n:Int):IntKind.i64.wrap n=if 9223372036854775808≤n%18446744073709551616 then n%18446744073709551616-18446744073709551616 else n%18446744073709551616:=by
 unfold IntKind.wrap
 simp[IntKind.bits,IntKind.signed]
theorem LO(n:Nat): ∃k:Int,gH n=n+18446744073709551616*k∧ -9223372036854775808≤gH n∧gH n<9223372036854775808:=by
 unfold gH
 rw[wr_eq,wrap64]
 split
 ·exact⟨-((n:Int)/18446744073709551616)-1,by omega,by omega,by omega⟩
 ·exact⟨-((n:Int)/18446744073709551616),by omega,by omega,by omega⟩
theorem alw{a b:Int}(h: ∃k:Int,a=b+18446744073709551616*k):wr .i64 a=wr .i64 b:=by
 obtain⟨k,rfl⟩:=h
 rw[wr_eq,wr_eq,wrap64,wrap64,show(b+18446744073709551616*k)%18446744073709551616=b%18446744073709551616 by omega]
theorem yJ(a b:Nat):wr .i64 (gH a+gH b)=gH (a+b):=by
 obtain⟨k,h,_⟩:=LO a
 obtain⟨m,D,_⟩:=LO b
 exact alw ⟨k+m,by rw[h,D];push_cast;omega⟩
theorem Jl:gH 0=0:=zz
theorem adW:gH 1=1:=zz
theorem Ya(a:Nat):wr .i64 (gH a)=gH a:=by
 obtain⟨k,h,h1,h2⟩:=LO a
 exact bI ⟨by omega,by omega⟩
section
variable(N H:Nat)(J:Nat→Nat→Bool)(ch:Nat→Bool)
def yj(c:Nat→Nat→Nat→Nat):Nat→Nat
 |0=>0
 |k+1=>yj c k+Csu N H (fun h g=>c (k+1) g h)
end
def BJ(N:Nat):Option Int→List Int→Int
 |_,[]=>0
 |p,x::l=>if 0≤x∧x<(N:Int)then match p with
    |some q=>if x≤q then 8 else BJ N (some x) l
    |none=>BJ N (some x) l
  else 6
def Q5(l:List Int)(k:Nat):Option Int:=if k=0 then none else l[k-1]?
theorem Q6(l:List Int)(k:Nat)(hk:k<l.length):Q5 l (k+1)=some l[k]:=by
 unfold Q5;rw[if_neg zZ,Nat.add_sub_cancel,List.getElem?_eq_getElem hk]
theorem Yb(l:List Int)(k:Nat)(hk:k<l.length)(h0:k≠0):Q5 l k=some l[k-1]:=by
 unfold Q5;rw[if_neg h0,List.getElem?_eq_getElem zZ]
theorem Jm(N:Nat)(p:Option Int)(x:Int)(l:List Int):BJ N p (x::l)=if 0≤x∧x<(N:Int)then(match p with|some q=>if x≤q then 8 else BJ N (some x) l|none=>BJ N (some x) l)else 6:=by cases p <;> rfl
theorem adX(N:Nat)(p:Option Int):BJ N p []=0:=by cases p <;> rfl
section
variable(zT aT fT:T)(r fc:List T)(N:Nat)(hf:IsSl fT N fc)(hN:N≤1000)(ops:List Int)(oT:T)(ho:IsSl oT ops.length (ints ops))(hl:ops.length≤1000)
include hf hN ho hl
end
end Go.Proofs.YtnkgnjecmfkcfaaGreat
