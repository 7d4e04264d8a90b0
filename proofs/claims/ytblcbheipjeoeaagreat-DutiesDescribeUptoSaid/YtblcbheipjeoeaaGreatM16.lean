/- Walks of functions of the program and of the reference, and their plain laws, part 16. Conditions: the theorems' own. -/
import Derived.Test.YtblcbheipjeoeaaGreatM15
import Derived.KernelRfl
set_option maxRecDepth 100000
set_option linter.unusedSimpArgs false
set_option linter.unusedVariables false
set_option maxHeartbeats 16000000
namespace Go.Proofs.YtblcbheipjeoeaaGreat
open Go Go.Ev
section
variable(t:Tt)(c:Ct)(zT aT fT a7 a8 a9 a10 hZ hU:T)(vs:List T)(hT:vq t zT aT fT)(hC:xG c a7 a8 a9 a10 hZ hU)(hV:Ix t c vs)(ht:tq t=0)(hc:my c=0)
theorem PW(hV:Ix t c vs)(ht:tq t=0){s:List Nat}(hs:s∈t.ap.map Ap.cd): ∃a,gS pE 181 [oh c zT aT fT a7 a8 a9 a10 hZ hU vs,.s s] []=some (.agg (sf (CH t s) a),[])∧ZoT (CH t s) a:=by
 obtain⟨q,r1,r2,r3,c1,c2,c3,cr,nb,rfl,D,E,_⟩:=hV
 obtain⟨a,F,C⟩:=axS ht D E hs
 refine⟨a, ?_,C⟩
 have r:=Pu (kT:=sK) (vT:=T.agg) FL (fun _=>rfl) q s (.agg [.s [],.i .i64 0,.nilsl])
 rw[F]at r
 change nX _ _ _ (.s s) _ _=_ at r
 obtain⟨H,h1,I⟩:=C
 unfold sf at*
 unfold oh iS
 simp only[List.cons_append,List.nil_append]
 rw[gX aex (by simp[Ua])]
 simp only[qA,seval,Ua,r,h1.froz1]
theorem wV(hT:vq t zT aT fT)(i:Nat)(hi:i<t.fl.length): ∃r,gS pE 95 [oh c zT aT fT a7 a8 a9 a10 hZ hU vs,.i .i64 (i:Int)] []=some (.vp (.s t.fl[i].nu:: .s t.fl[i].fr:: .s t.fl[i].to:: .i .i64 t.fl[i].dp:: .i .i64 t.fl[i].ar:: .s t.fl[i].ty:: .i .i64 t.fl[i].n0:: .i .i64 t.fl[i].n1:: .i .i64 t.fl[i].n2::r),[]):=by
 obtain⟨C,D,E⟩:=hT.f
 exact Ny zT aT fT (iS c a7 a8 a9 a10 hZ hU++vs) C t.fl D E i hi
theorem K9(hT:vq t zT aT fT)(ht:tq t=0)(hc:my c=0)(i j:Nat)(hi:i<t.fl.length)(r:j<t.fl.length):gS pE 180 [oh c zT aT fT a7 a8 a9 a10 hZ hU vs,.i .i64 (i:Int),.i .i64 (j:Int)] []=some (.agg [.i .i64 (tm c t.fl[i]),.i .i64 (tn c t.fl[j])],[]):=by
 obtain⟨r1,h1⟩:=wV t c zT aT fT a7 a8 a9 a10 hZ hU vs hT i hi
 obtain⟨r2,C⟩:=wV t c zT aT fT a7 a8 a9 a10 hZ hU vs hT j r
 obtain⟨_,_,D,F,_⟩:=K8 hc ((nh t ht).1 _ (List.getElem_mem hi)) ((nh t ht).1 _ (List.getElem_mem r))
 generalize t.fl[i]=f at*
 generalize t.fl[j]=g at*
 generalize tm c f=S at*
 generalize tn c g=E at*
 unfold oh iS at*
 simp only[List.cons_append,List.nil_append]at*
 rw[gX Vi (by simp[T9])]
 simp only[qA,seval,iR,iy,T9,h1,C,D,F,zF,aar]
theorem Yy(hT:vq t zT aT fT)(hV:Ix t c vs)(ht:tq t=0)(hc:my c=0)(i j:Nat)(hi:i<t.fl.length)(N:j<t.fl.length)(x0 x1 x2 x3 x4 x5 x6 x7 x8 x9 O:T):
  gS pE 114 [oh c zT aT fT a7 a8 a9 a10 hZ hU vs,.isl .S 0 1 0 11 1,.i .i64 (i:Int),.i .i64 (j:Int)] [⟨1,.cells [x0,x1,x2,x3,x4,x5,x6,x7,x8,x9,O] 0 false⟩]=some (.tup [],[⟨1,.cells [x0,x1,x2,x3,.i .i64 (tn c t.fl[j]-tm c t.fl[i]),.i .i64 (IA t c t.fl[i] t.fl[j]),x6,x7,.i .i64 (K7 t c t.fl[i] t.fl[j]),.i .i64 (NJ t c t.fl[i]),.i .i64 (NK t c t.fl[j])] 0 false⟩]):=by
 have CV:=K9 t c zT aT fT a7 a8 a9 a10 hZ hU vs hT ht hc i j hi N
 obtain⟨r1,h1⟩:=wV t c zT aT fT a7 a8 a9 a10 hZ hU vs hT i hi
 obtain⟨r2,h2⟩:=wV t c zT aT fT a7 a8 a9 a10 hZ hU vs hT j N
 have U:=List.getElem_mem hi
 have V:=List.getElem_mem N
 obtain⟨b1,b2,_,_,w3⟩:=K8 hc ((nh t ht).1 _ U) ((nh t ht).1 _ V)
 obtain⟨W,C,Rg⟩:=PW t c zT aT fT a7 a8 a9 a10 hZ hU vs hV ht (nS ht U).1
 obtain⟨zb,D,r⟩:=PW t c zT aT fT a7 a8 a9 a10 hZ hU vs hV ht (nS ht V).2
 have K:=BK ht (nS ht U).1
 have X:=BK ht (nS ht V).2
 have nf:=PV hc
 have i1:=C9 (x:=tm c t.fl[i]) (by omega)
 have i2:=C9 (x:=tn c t.fl[j]) (by omega)
 have o1:=yZ _ W Rg K _ i1
 have o2:=yZ _ zb r X _ i2
 have l1:=K1 _ W Rg K _ i1
 have l2:=K1 _ zb r X _ i2
 have d1:=Zo.off_bd K (tm c t.fl[i])
 have d2:=Zo.off_bd X (tn c t.fl[j])
 have Y:tm c t.fl[i]<tn c t.fl[j]→_:=fun h=>ajA _ W Rg K (tm c t.fl[i]) (tn c t.fl[j]) c.nf c.nt ⟨by omega,by omega,by omega,by omega,by omega,by omega,by omega⟩
 have F:=Rg.choose_spec.1.froz1
 have H:=r.choose_spec.1.froz1
 have ca:=Rg.choose_spec.1.cells
 have cb:=r.choose_spec.1.cells
 unfold IA K7 NJ NK
 generalize t.fl[i]=f at*
 generalize t.fl[j]=g at*
 generalize tm c f=S at*
 generalize tn c g=E at*
 generalize CH t f.fr=I at*
 generalize CH t g.to=J at*
 have w4:wr .i64 (I.off S-J.off E)=I.off S-J.off E:=jL (by omega)
 have w5:wr .i64 (J.off E-I.off S)=J.off E-I.off S:=jL (by omega)
 generalize I.off S=p1 at*
 generalize J.off E=p2 at*
 have Fj:=wQ c zT aT fT a7 a8 a9 a10 hZ hU vs
 have hkv:kept (oh c zT aT fT a7 a8 a9 a10 hZ hU vs)=true:=nr rfl
 unfold sf at*
 rw[gX UZ (by simp[Qu])]
 by_cases Z:S<E
 ·have Y:=Y Z
  have Cz:0<E-S:=by omega
  rw[if_pos Z]
  unfold oh iS at*
  simp only[List.cons_append,List.nil_append]at*
  simp only[qA,seval,iR,iy,mX,Qu,CV,h1,h2,C,D,w3,w4,w5,Cz,Y,o1,o2,l1,l2,qP,sX,F,H,AJ,oI,oJ,zF,Vj,aey,aez,aeA,Vl,aeD]
  rfl
 ·have Cz: ¬0<E-S:=by omega
  rw[if_neg Z]
  unfold oh iS at*
  simp only[List.cons_append,List.nil_append]at*
  simp only[qA,seval,iR,iy,mX,Qu,CV,h1,h2,C,D,w3,w4,w5,Cz,o1,o2,l1,l2,qP,sX,F,H,zF,Vj,aey,aez,aeA,Vl,aeD]
  rfl
end
end Go.Proofs.YtblcbheipjeoeaaGreat
namespace Go.Ev
open Go
theorem acZ{E:Env}{i:rh}{n:Nat}{fr:Fr}{lh:hJ gR}{sh:List gR}{os:List be}{d bytes:Nat}{z:List T}{x:iz}(hd:d<n):gV E i n (⟨some d,.mksl z bytes x true,none⟩::os) ⟨fr,lh,sh⟩=
  (MQ (rd fr x) bytes).bind fun m=>gV E i n os ⟨kj fr d (.isl .S sh.length 1 0 m z.length),lh,jP sh sh.length ⟨1,.cells (repl z m) 0 (nmZ z)⟩⟩:=by
 rw[qL (by rfl) (show FE n (some d)from hd)]
 unfold one MQ
 simp only[jf]
 cases asNat (rd fr x)with
 |none=>rfl
 |some m=>
  simp only[Bool.and_eq_true,decide_eq_true_eq]
  split <;> rfl
end Go.Ev
namespace Go.Proofs.YtblcbheipjeoeaaGreat
open Go Go.Ev
structure Cn where
 lg:Int
 hd:Int
 bk:Int
 lo:Int
 so:Int
 ks:List (List Nat)
def cn0:Cn:=⟨0,0,0,0,1440,[]⟩
def adK(s:List Nat)(l:List (List Nat)):List (List Nat):=if s∈l then l else l++ [s]
def Tz(f:Fl)(h:Bool)(s:Cn):Cn:=if h=true then{s with hd:=s.hd+1}else{s with lg:=s.lg+1,bk:=s.bk+(f.ar-f.dp),ks:=adK f.ty s.ks}
def cnG(g f:Fl)(s:Cn):Cn:={s with lo:=max s.lo (f.dp-g.ar),so:=min s.so (f.dp-g.ar)}
def tkG(d:List (Int×Bool))(k:Nat):Int×Bool:=d.getD k (0,false)
def kF(fl:List Fl)(d:List (Int×Bool))(k:Nat):Fl:=flG fl (tkG d k).1
def pQ(fl:List Fl)(d:List (Int×Bool)):Nat→Cn
 |0=>cn0
 |k+1=>if k=0 then Tz (kF fl d k) (tkG d k).2 (pQ fl d k)else cnG (kF fl d (k-1)) (kF fl d k) (Tz (kF fl d k) (tkG d k).2 (pQ fl d k))
def IB(k:Nat)(s:Cn):Prop:=(0≤s.lg∧s.lg≤k)∧(0≤s.hd∧s.hd≤k)∧(0≤s.bk∧s.bk≤1440*k)∧(0≤s.lo∧s.lo≤52593120)∧(-52593120≤s.so∧s.so≤1440)∧s.ks.length≤k
theorem ajE:IB 0 cn0:=by unfold IB cn0;simp
theorem Yz{f:Fl}(C:BH f){h:Bool}{k:Nat}{s:Cn}(hs:IB k s):IB (k+1) (Tz f h s):=by
 obtain⟨_,E,F,H,I⟩:=C
 obtain⟨h1,J,K,i,r,N⟩:=hs
 have D:(adK f.ty s.ks).length≤k+1:=by unfold adK;split <;> (try rw[List.length_append]) <;> (try simp only[List.length_cons,List.length_nil]) <;> omega
 unfold IB Tz
 cases h
 ·simp only[Bool.false_eq_true,if_false]
  refine⟨by omega,by omega,by omega,i,r,D⟩
 ·simp only[if_true]
  refine⟨by omega,by omega,by omega,i,r,by omega⟩
theorem NL{f g:Fl}(i:BH f)(r:BH g): -52593120≤f.dp-g.ar∧f.dp-g.ar≤52593120:=by
 obtain⟨_,C,D,E,F⟩:=i
 obtain⟨_,H,I,J,K⟩:=r
 omega
theorem ajF{f g:Fl}(i:BH f)(r:BH g){k:Nat}{s:Cn}(hs:IB k s):IB k (cnG g f s):=by
 have:=NL i r
 obtain⟨h1,C,D,F,H,E⟩:=hs
 unfold IB cnG
 refine⟨h1,C,D, ?_, ?_,E⟩ <;> simp only <;> omega
theorem NM{d:List (Int×Bool)}{k:Nat}(i:k<d.length):tkG d k=d[k]:=by unfold tkG;rw[List.getD_eq_getElem?_getD,List.getElem?_eq_getElem i];rfl
theorem nJ{fl:List Fl}(D: ∀f∈fl,BH f){d:List (Int×Bool)}(hd: ∀k∈d,A0 fl.length k.1=true){k:Nat}(r:k<d.length): ∃i:Nat,∃hi:i<fl.length,d[k].1=i∧kF fl d k=fl[i]∧BH (kF fl d k):=by
 obtain⟨i,hi,e⟩:=EB (hd _ (List.getElem_mem r))
 have C:kF fl d k=fl[i]:=by unfold kF;rw[NM r,e,ajv hi]
 exact⟨i,hi,e,C,by rw[C];exact D _ (List.getElem_mem hi)⟩
theorem IC{fl:List Fl}(i: ∀f∈fl,BH f){d:List (Int×Bool)}(hd: ∀k∈d,A0 fl.length k.1=true): ∀k,k≤d.length→IB k (pQ fl d k)
 |0,_=>ajE
 |k+1,h=>by
  have ih:=IC i hd k (by omega)
  obtain⟨_,_,_,_,h1⟩:=nJ i hd (k:=k) (by omega)
  rw[pQ]
  split
  ·exact Yz h1 ih
  ·obtain⟨_,_,_,_,r⟩:=nJ i hd (k:=k-1) (by omega)
   exact ajF h1 r (Yz h1 ih)
theorem asw(s:List Nat)(l:List (List Nat))(a:T)(N:g8 a l.length (l.map T.s))(hlen:l.length≤1000)(r:Int)(C:r=ixA s l 0)(o:Out)(J:o=if r<0 then .ext 0 else .ret)(fr:Fr)(lh:hJ gR)(sh:List gR)(E:an fr 0=a)(h1:an fr 1= .s s)(D:an fr 7= .i .i64 (l.length:Int))(F:an fr 8= .i .i64 0):
  kV 19 xj fr lh sh o∧
  ((¬r<0→an (kh pE 19 xj fr lh sh) 4= .i .i64 r)∧kb pE 19 xj fr lh sh=sh):=by
 refine jo (fun k st=> ∃(fr:Fr) (lh:hJ gR),st=⟨fr,lh,sh⟩∧r=ixA s (l.drop k) k∧an fr 0=a∧an fr 1= .s s∧an fr 7= .i .i64 (l.length:Int)∧an fr 8= .i .i64 (k:Int))
  (fun O X U=>(¬r<0→an O 4= .i .i64 r)∧U=sh) _ l.length ?_ ?_ fr lh sh ⟨fr,lh,rfl,C,E,h1,D,F⟩
 ·rintro k _ H ⟨fr,lh,rfl,C,E,h1,D,F⟩
  have V:(k:Int)<l.length:=by omega
  have W:=iG (k:=k) (by omega)
  have I: ∃K,∀kk,sH a (.i kk (k:Int)) 1=some (.vp (.s l[k]::K)):=by
   refine⟨(l.map T.s).drop (k+1),fun kk=> ?_⟩
   rw[N.ia (sz:=1) (by simp) H,Nat.mul_one,List.drop_eq_getElem_cons (by simpa using H),List.getElem_map]
  obtain⟨K,I⟩:=I
  rw[List.drop_eq_getElem_cons H,ixA]at C
  generalize l[k]=y at*
  simp only[qB,seval,xj,E,h1,D,F,V,I,W]
  refine vh (fun h=> ?_) (fun h=> ?_)
  ·rw[if_pos h.symm]at C
   exact vi ⟨by rw[J,if_neg (by omega)],fun _=>(by simp only[qA,seval,C]),rfl⟩
  ·rw[if_neg (fun e=>h e.symm)]at C
   exact iN ⟨_,_,rfl,C,by simp only[qA,seval,E],by simp only[qA,seval,h1],by simp only[qA,seval,D],by simp only[qA,seval]⟩
 ·rintro _ ⟨fr,lh,rfl,C,E,h1,D,F⟩
  rw[List.drop_length,ixA]at C
  simp only[qA,seval,xj,D,F,Int.lt_irrefl]
  exact jD ⟨by rw[J,if_pos (by omega)],fun h=>absurd (by omega) h,rfl⟩
theorem ID(s:List Nat)(l:List (List Nat))(a:T)(r:g8 a l.length (l.map T.s))(hlen:l.length≤1000):gS pE 133 [a,.s s] []=some (.b (decide (s∈l)),[]):=by
 have C:=fun fr lh sh F h1 H I=>asw s l a r hlen _ rfl _ rfl fr lh sh F h1 H I
 have BC:=yS s l 0
 have D:=C1 s l 0
 have E:gS pE 216 [a,.s s] []=some (.i .i64 (ixA s l 0),[]):=by
  rw[gX aeP (by simp[QM])]
  generalize ixA s l 0=v at*
  by_cases h:v<0
  ·have e:=BC h
   subst e
   simp only[qA,seval,QM,C,r.lenI]
  ·simp only[h,if_false,not_false_eq_true,forall_const]at C
   simp only[qA,seval,QM,C,r.lenI]
 have hd:decide (s∈l)=decide (0≤ixA s l 0):=by
  rw[decide_eq_decide]
  generalize ixA s l 0=v at D ⊢
  by_cases h:s∈l
  ·simp only[h,not_true_eq_false,iff_false,true_iff]at D ⊢; omega
  ·simp only[h,not_false_eq_true,iff_true,false_iff]at D ⊢; omega
 rw[hd]
 rw[gX aeb (by simp[TZ])]
 generalize ixA s l 0=v at*
 simp only[qA,seval,TZ,E,r.froz,apz]
def dvC(s:Cn):List T:= [.i .i64 s.lg,.i .i64 s.hd,.i .i64 0,.i .i64 s.bk,.i .i64 0,.i .i64 0,.i .i64 s.lo,.i .i64 s.so,.i .i64 0,.i .i64 0,.i .i64 0]
theorem agC{n:Nat}(h:n≤1000):(n+1)*16≤roomy:=by unfold roomy;omega
section
variable(t:Tt)(c:Ct)(zT aT fT a7 a8 a9 a10 hZ hU:T)(vs:List T)(hT:vq t zT aT fT)(ht:tq t=0)
include hT ht
theorem axT(d:List (Int×Bool))(dT:T)(hd:EA d dT)(hlen:d.length≤100)(iI: ∀k∈d,A0 t.fl.length k.1=true)(fr:Fr)(lh:hJ gR)(sh:List gR)(kN:sh= [⟨1,.cells (dvC cn0) 0 false⟩])(C:an fr 0=oh c zT aT fT a7 a8 a9 a10 hZ hU vs)(h1:an fr 1=dT)(D:an fr 5= .isl .S 0 1 0 11 1)(h6:an fr 6= .nilsl)(E:an fr 14=dT)(r:an fr 15= .i .i64 (d.length:Int))(J:an fr 16= .i .i64 0):
  kV 117 nj fr lh sh (.ext 0)∧
  (iT (kH pE 117 nj fr lh sh) (an (kh pE 117 nj fr lh sh) 6) 64 1 (pQ t.fl d d.length).ks.length ((pQ t.fl d d.length).ks.map T.s)∧kb pE 117 nj fr lh sh= [⟨1,.cells (dvC (pQ t.fl d d.length)) 0 false⟩]):=by
 subst kN
 refine jo (fun k st=> ∃(fr:Fr) (lh:hJ gR),st=⟨fr,lh,[⟨1,.cells (dvC (pQ t.fl d k)) 0 false⟩]⟩∧an fr 0=oh c zT aT fT a7 a8 a9 a10 hZ hU vs∧an fr 1=dT∧an fr 5= .isl .S 0 1 0 11 1∧an fr 14=dT∧an fr 15= .i .i64 (d.length:Int)∧an fr 16= .i .i64 (k:Int)∧iT lh (an fr 6) 64 1 (pQ t.fl d k).ks.length ((pQ t.fl d k).ks.map T.s))
  (fun iq N O=>iT N (an iq 6) 64 1 (pQ t.fl d d.length).ks.length ((pQ t.fl d d.length).ks.map T.s)∧O= [⟨1,.cells (dvC (pQ t.fl d d.length)) 0 false⟩]) _ d.length ?_ ?_ fr lh _ ⟨fr,lh,rfl,C,h1,D,E,r,J,by rw[h6];exact iT.nil⟩
 ·rintro k _ hk ⟨fr,lh,rfl,C,h1,D,E,r,J,I⟩
  have Y:(k:Int)<d.length:=by omega
  have Z:=iG (k:=k) (by omega)
  have xY:=(nh t ht).1
  obtain⟨rr,U⟩:=rQ hd k hk
  obtain⟨i,hi,ei,ef,Z6⟩:=nJ xY iI hk
  obtain⟨r2,V⟩:=wV t c zT aT fT a7 a8 a9 a10 hZ hU vs hT i hi
  rw[←ef]at V
  have W:=IC xY iI k (by omega)
  have sd:pQ t.fl d (k+1)=if k=0 then Tz (kF t.fl d k) d[k].2 (pQ t.fl d k)else cnG (kF t.fl d (k-1)) (kF t.fl d k) (Tz (kF t.fl d k) d[k].2 (pQ t.fl d k)):=by rw[pQ,NM hk]
  have H:=ID (kF t.fl d k).ty (pQ t.fl d k).ks (lJ (pQ t.fl d k).ks.length ((pQ t.fl d k).ks.map T.s)) I.isl (by obtain⟨_,_,_,_,_,h⟩:=W;omega)
  have F:=fun(N:hJ gR) (O:List gR) (keep:Bool) (e:a6 N 64=a6 lh 64)=>(I.congr e).fzV (sh:=O) (keep:=keep)
  have mF:=fun(N:hJ gR) (O:List gR) (e:a6 N 64=a6 lh 64)=>(wT (sh:=O) (I.congr e) [.s (kF t.fl d k).ty] rfl (bytes:=16) (agC (by obtain⟨_,_,_,_,_,h⟩:=W;omega)) true)
  have X:=fun(N:hJ gR) (O:List gR) (e:a6 N 64=a6 lh 64)=>(mF N O e).1
  have FQ:=I.notS
  rw[sd]
  obtain⟨c1,c2,c3,c4,c5,c6⟩:=W
  rw[ei]at U
  have fa:=Z6
  obtain⟨_,f1,f2,f3,f4⟩:=fa
  generalize Z7:an fr 6=v6 at I F mF X FQ
  generalize pQ t.fl d k=s at*
  have w1:wr .i64 (s.lg+1)=s.lg+1:=jL (by omega)
  have w2:wr .i64 (s.hd+1)=s.hd+1:=jL (by omega)
  have w3:wr .i64 ((kF t.fl d k).ar-(kF t.fl d k).dp)=(kF t.fl d k).ar-(kF t.fl d k).dp:=jL (by omega)
  have w4:wr .i64 (s.bk+((kF t.fl d k).ar-(kF t.fl d k).dp))=s.bk+((kF t.fl d k).ar-(kF t.fl d k).dp):=jL (by omega)
  have Fj:=wQ c zT aT fT a7 a8 a9 a10 hZ hU vs
  by_cases Sr:k=0
  ·have SI: ¬(0:Int)<(k:Int):=by omega
   rw[if_pos Sr]
   generalize kF t.fl d k=f at*
   generalize d[k].2=b at*
   unfold dvC Tz adK at*
   cases b with
   |true=>
    have DZ:True:=trivial
    simp only[if_true]
    simp only[qA,seval,repl,iR,iy,mX,nj,C,h1,D,Z7,E,r,J,Y,Z,U,V,w1,w2,w3,w4,Fj,AJ,oI,oJ,SI,FQ,F,X,H,zF,Gf]
    exact iN ⟨_,_,rfl,by simp only[qA,seval,C],by simp only[qA,seval,h1],by simp only[qA,seval,D],by simp only[qA,seval,E],by simp only[qA,seval,r],by simp only[qA,seval],by simp only[qA,seval,Z7];exact I.congr (by simp only[qA,seval])⟩
   |false=>
    simp only[Bool.false_eq_true,if_false]
    by_cases K:f.ty∈s.ks
    ·have DZ:=decide_eq_true K
     rw[if_pos K]
     simp only[qA,seval,repl,iR,iy,mX,nj,C,h1,D,Z7,E,r,J,Y,Z,U,V,w1,w2,w3,w4,Fj,AJ,oI,oJ,SI,FQ,F,X,H,DZ,zF,Gf]
     exact iN ⟨_,_,rfl,by simp only[qA,seval,C],by simp only[qA,seval,h1],by simp only[qA,seval,D],by simp only[qA,seval,E],by simp only[qA,seval,r],by simp only[qA,seval],by simp only[qA,seval,Z7];exact I.congr (by simp only[qA,seval])⟩
    ·have DZ:=decide_eq_false K
     rw[if_neg K]
     simp only[qA,seval,repl,iR,iy,mX,nj,C,h1,D,Z7,E,r,J,Y,Z,U,V,w1,w2,w3,w4,Fj,AJ,oI,oJ,SI,FQ,F,X,H,DZ,zF,Gf]
     exact iN ⟨_,_,rfl,by simp only[qA,seval,C],by simp only[qA,seval,h1],by simp only[qA,seval,D],by simp only[qA,seval,E],by simp only[qA,seval,r],by simp only[qA,seval],by simp only[qA,seval];rw[List.length_append,List.map_append];exact(mF _ _ (by simp only[qA,seval])).2.1⟩
  ·have SI:(0:Int)<(k:Int):=by omega
   have tY:=oF (k:=k) (by omega) (by omega)
   obtain⟨r3,La⟩:=rQ hd (k-1) (by omega)
   obtain⟨j,hj,ej,eg,gok⟩:=nJ xY iI (k:=k-1) (by omega)
   obtain⟨r4,wI⟩:=wV t c zT aT fT a7 a8 a9 a10 hZ hU vs hT j hj
   rw[←eg]at wI
   rw[ej]at La
   have gap:=NL Z6 gok
   have w5:wr .i64 ((kF t.fl d k).dp-(kF t.fl d (k-1)).ar)=(kF t.fl d k).dp-(kF t.fl d (k-1)).ar:=jL (by omega)
   rw[if_neg Sr]
   generalize kF t.fl d k=f at*
   generalize kF t.fl d (k-1)=g at*
   generalize d[k].2=b at*
   unfold dvC cnG Tz adK at*
   cases b with
   |true=>
    have DZ:True:=trivial
    simp only[if_true]
    simp only[qA,seval,repl,iR,iy,mX,nj,C,h1,D,Z7,E,r,J,Y,Z,U,V,w1,w2,w3,w4,Fj,AJ,oI,oJ,SI,FQ,F,X,H,zF,aar,Gf,qP,sX,La,wI,tY,w5]
    exact iN ⟨_,_,rfl,by simp only[qA,seval,C],by simp only[qA,seval,h1],by simp only[qA,seval,D],by simp only[qA,seval,E],by simp only[qA,seval,r],by simp only[qA,seval],by simp only[qA,seval,Z7];exact I.congr (by simp only[qA,seval])⟩
   |false=>
    simp only[Bool.false_eq_true,if_false]
    by_cases K:f.ty∈s.ks
    ·have DZ:=decide_eq_true K
     rw[if_pos K]
     simp only[qA,seval,repl,iR,iy,mX,nj,C,h1,D,Z7,E,r,J,Y,Z,U,V,w1,w2,w3,w4,Fj,AJ,oI,oJ,SI,FQ,F,X,H,DZ,zF,aar,Gf,qP,sX,La,wI,tY,w5]
     exact iN ⟨_,_,rfl,by simp only[qA,seval,C],by simp only[qA,seval,h1],by simp only[qA,seval,D],by simp only[qA,seval,E],by simp only[qA,seval,r],by simp only[qA,seval],by simp only[qA,seval,Z7];exact I.congr (by simp only[qA,seval])⟩
    ·have DZ:=decide_eq_false K
     rw[if_neg K]
     simp only[qA,seval,repl,iR,iy,mX,nj,C,h1,D,Z7,E,r,J,Y,Z,U,V,w1,w2,w3,w4,Fj,AJ,oI,oJ,SI,FQ,F,X,H,DZ,zF,aar,Gf,qP,sX,La,wI,tY,w5]
     exact iN ⟨_,_,rfl,by simp only[qA,seval,C],by simp only[qA,seval,h1],by simp only[qA,seval,D],by simp only[qA,seval,E],by simp only[qA,seval,r],by simp only[qA,seval],by simp only[qA,seval];rw[List.length_append,List.map_append];exact(mF _ _ (by simp only[qA,seval])).2.1⟩
 ·rintro _ ⟨fr,lh,rfl,C,h1,D,E,r,J,I⟩
  simp only[qA,seval,nj,r,J,Int.lt_irrefl]
  exact jD ⟨rfl,by simp only[qA,seval];exact I,rfl⟩
end
theorem SJ{k g o n s:Nat}:kept (.isl .S k g o n s)=true:=nr rfl
def jU(t:Tt)(c:Ct)(d:List (Int×Bool)):List Int:=
 [(pQ t.fl d d.length).lg,(pQ t.fl d d.length).hd,(pQ t.fl d d.length).ks.length,(pQ t.fl d d.length).bk,tn c (kF t.fl d (d.length-1))-tm c (kF t.fl d 0),IA t c (kF t.fl d 0) (kF t.fl d (d.length-1)),(pQ t.fl d d.length).lo,(pQ t.fl d d.length).so,K7 t c (kF t.fl d 0) (kF t.fl d (d.length-1)),NJ t c (kF t.fl d 0),NK t c (kF t.fl d (d.length-1))]
section
variable(t:Tt)(c:Ct)(zT aT fT a7 a8 a9 a10 hZ hU:T)(vs:List T)(hT:vq t zT aT fT)(hV:Ix t c vs)(ht:tq t=0)(hc:my c=0)
include hT hV ht hc
theorem ajH(d:List (Int×Bool))(dT:T)(hd:EA d dT)(h1:1≤d.length)(hlen:d.length≤100)(iI: ∀k∈d,A0 t.fl.length k.1=true): ∃s,gS pE 160 [oh c zT aT fT a7 a8 a9 a10 hZ hU vs,dT] []=some (.sl (ints (jU t c d)) 11 false,s):=by
 have U:=fun fr lh sh r C h1 D E F H I=>axT t c zT aT fT a7 a8 a9 a10 hZ hU vs hT ht d dT hd hlen iI fr lh sh r C h1 D E F H I
 have X:=fun fr lh sh r C h1 D E F H I=>(U fr lh sh r C h1 D E F H I).2.1.lenI
 obtain⟨i,hi,Y,Z,_⟩:=nJ (nh t ht).1 iI (k:=0) (by omega)
 obtain⟨j,hj,ej,eg,_⟩:=nJ (nh t ht).1 iI (k:=d.length-1) (by omega)
 obtain⟨r1,V⟩:=rQ hd 0 (by omega)
 obtain⟨r2,W⟩:=rQ hd (d.length-1) (by omega)
 have hw:=oF (k:=d.length) (by omega) (by omega)
 have J:=hd.choose_spec.1.lenI
 have K:kept (oh c zT aT fT a7 a8 a9 a10 hZ hU vs)=true:=nr rfl
 have Gu:=Yy t c zT aT fT a7 a8 a9 a10 hZ hU vs hT hV ht hc i j hi hj
 rw[←Z,←eg]at Gu
 rw[Y]at V
 rw[ej]at W
 have N: ∀kk,sH dT (.i kk 0) 2=_:=V
 have O:(11:Nat)*8≤roomy∧(11:Nat)≤roomy:=by unfold roomy;omega
 unfold jU
 generalize pQ t.fl d d.length=s at*
 generalize kF t.fl d 0=f at*
 generalize kF t.fl d (d.length-1)=g at*
 rw[gX aes (by simp[T1])]
 unfold dvC cn0 at*
 simp only[qA,seval,repl,iR,iy,mX,kq,T1,QG,acZ,O,U,X,N,W,hw,J,K,SJ,Gu,aoV,aoW]
 exact⟨_,rfl⟩
end
theorem NN{scope:Int}{s:List Nat}{i:Nat}(h:Ma scope s=some i):(TA scope)[i]? =some s:=by
 unfold Ma kP at h
 have:=AF h
 rw[List.take_length]at this
 exact List.mk_mem_zipIdx_iff_getElem?.1 this
def Lb(A:List Int):Prop:=A.length=11∧ ∀i s,jb[i]? =some s→EL (oU s) (A.getD i 0)
theorem YA(l:Cs){A:List Int}(h:Lb A):NO (PX (Is l) 1) (vZ (mw l) 1 A):=by
 intro s t hs
 unfold PX at hs
 by_cases r:ki 1 s≠0
 ·rw[if_pos r]at hs
  injection hs with hs _
  subst hs
  unfold vZ
  cases C:Ma 1 s with
  |none=>exact absurd ((rU 1 s).1 C) r
  |some i=>exact h.2 i s (NN C)
 ·rw[if_neg r]at hs
  have C:=(rU 1 s).2 (by simpa using r)
  unfold vZ
  rw[C]
  exact IE l s t hs
theorem EM{k k' v:Int}(h:k=k')(i:EL k' v):EL k v:=h▸i
theorem ajI{v:Int}(h:bd v):EL 1 v:= .inl ⟨.inl rfl,h⟩
theorem SK{v:Int}(h:bd v):EL 2 v:= .inl ⟨.inr rfl,h⟩
theorem asz{v:Int}(h:0≤v∧v≤1439):EL 3 v:= .inr (.inl ⟨rfl,h⟩)
theorem bdE{v:Int}(h: -1000000000≤v∧v≤1000000000):bd v:=by unfold bd;omega
theorem YB(z:Zo)(x:Int):0≤z.clk x∧z.clk x≤1439:=by unfold Zo.clk;omega
theorem YC{z:Zo}{A B f t:Int}(h1:0≤A)(i:B≤52596000):0≤z.bandM A B f t∧z.bandM A B f t≤52596000:=by
 have:=C8 (fun x=>ky (z.clk x) f t) A (B-A).toNat
 unfold Zo.bandM wR
 omega
theorem EN{t:Tt}{c:Ct}(ht:tq t=0)(hc:my c=0){d:List (Int×Bool)}(h1:1≤d.length)(hlen:d.length≤100)(iI: ∀k∈d,A0 t.fl.length k.1=true):Lb (jU t c d):=by
 have C:=(nh t ht).1
 obtain⟨c1,c2,c3,X,Y,Z⟩:=IC C iI d.length (Nat.le_refl _)
 obtain⟨i,hi,J,D,Z6⟩:=nJ C iI (k:=0) (by omega)
 obtain⟨j,E,K,F,r⟩:=nJ C iI (k:=d.length-1) (by omega)
 obtain⟨b1,b2,_,_,_⟩:=K8 hc Z6 r
 have H:mf (CH t (kF t.fl d 0).fr)=0:=by rw[D];exact BK ht (nS ht (List.getElem_mem hi)).1
 have I:mf (CH t (kF t.fl d (d.length-1)).to)=0:=by rw[F];exact BK ht (nS ht (List.getElem_mem E)).2
 have N:=Zo.off_bd H (tm c (kF t.fl d 0))
 have O:=Zo.off_bd I (tn c (kF t.fl d (d.length-1)))
 have nb: -1000000000≤IA t c (kF t.fl d 0) (kF t.fl d (d.length-1))∧IA t c (kF t.fl d 0) (kF t.fl d (d.length-1))≤1000000000:=by
  unfold IA
  split
  ·have:=YC (z:=CH t (kF t.fl d 0).fr) (A:=tm c (kF t.fl d 0)) (B:=tn c (kF t.fl d (d.length-1))) (f:=c.nf) (t:=c.nt) (by omega) (by omega)
   omega
  ·omega
 have U: -1000000000≤K7 t c (kF t.fl d 0) (kF t.fl d (d.length-1))∧K7 t c (kF t.fl d 0) (kF t.fl d (d.length-1))≤1000000000:=by
  unfold K7;omega
 have V:0≤NJ t c (kF t.fl d 0)∧NJ t c (kF t.fl d 0)≤1439:=YB _ _
 have W:0≤NK t c (kF t.fl d (d.length-1))∧NK t c (kF t.fl d (d.length-1))≤1439:=YB _ _
 refine⟨rfl,fun i s h=> ?_⟩
 unfold jU
 generalize pQ t.fl d d.length=q at*
 clear N O H I J D K F hi E Z6 r C
 match i,h with
 |0,h=>cases h;exact EM (by decide) (ajI (bdE (by show _≤q.lg∧q.lg≤_;omega)))
 |1,h=>cases h;exact EM (by decide) (ajI (bdE (by show _≤q.hd∧q.hd≤_;omega)))
 |2,h=>cases h;exact EM (by decide) (ajI (bdE (by show _≤(q.ks.length:Int)∧(q.ks.length:Int)≤_;omega)))
 |3,h=>cases h;exact EM (by decide) (SK (bdE (by show _≤q.bk∧q.bk≤_;omega)))
 |4,h=>cases h;exact EM (by decide) (SK (bdE (by show _≤tn c (kF t.fl d (d.length-1))-tm c (kF t.fl d 0)∧tn c (kF t.fl d (d.length-1))-tm c (kF t.fl d 0)≤_;omega)))
 |5,h=>cases h;exact EM (by decide) (SK (bdE nb))
 |6,h=>cases h;exact EM (by decide) (SK (bdE (by show _≤q.lo∧q.lo≤_;omega)))
 |7,h=>cases h;exact EM (by decide) (SK (bdE (by show _≤q.so∧q.so≤_;omega)))
 |8,h=>cases h;exact EM (by decide) (SK (bdE U))
 |9,h=>cases h;exact EM (by decide) (asz V)
 |10,h=>cases h;exact EM (by decide) (asz W)
 |n+11,h=>cases h
def vE(l:Cs)(A:List Int)(x:Ex):Int:=x.val0 (vZ (mw l) 1 A)
theorem SL{l:Cs}{A:List Int}(i:Lb A){x:Ex}(C:KT l 1 x):G9 A (comp (mw l) 1 x)∧(comp (mw l) 1 x).val A=vE l A x∧ ∃k,EL k (vE l A x):=by
 obtain⟨_,r,k,D⟩:=C
 have H:=(oa r).1
 have I:=x.nodes_eq
 obtain⟨h1,E,F⟩:=PY (YA l i) (show A.length=(TA 1).length from i.1) x k (na r) (by omega) D
 exact⟨h1,E,k,F⟩
def uc(A:List Int)(l:RL):Bool:=l.all fun u=>decide (u.2.val A≠0)
def CI(n:Int):List Int→Int
 | []=>n
 |v::r=>CI (wr .i64 (n+v)) r
def oM(A:List Int)(l:RL):Int:=CI 0 (l.map fun u=>u.2.val A)
theorem Lc: ∀(a b:List Int) (n:Int),CI n (a++b)=CI (CI n a) b
 | [],b,n=>rfl
 |v::a,b,n=>by rw[List.cons_append,CI,CI,Lc a b]
def rV(A:List Int)(l:RL):Int:=match l with| []=>A.getD 3 0|u::_=>u.2.val A
theorem YD{l:RL}{v:T}(h:Mb 4 l v):lenI v=some (.i .i64 (l.length:Int))∧ ∀k (E:k<l.length),∃b C r,(∀kk,sH v (.i kk (k:Int)) 4=some (.vp (.s l[k].1:: .i .i64 l[k].2.op:: .i .i64 l[k].2.num::b::r)))∧g8 b l[k].2.args.length C∧iO l[k].2.args C:=by
 obtain⟨n,cs,h1,K,D,N⟩:=h
 rw[if_pos rfl]at D
 have O:=ic.len Z2.len D
 have e:n=l.length:=by omega
 subst e
 refine⟨h1.lenI,fun k E=> ?_⟩
 obtain⟨c,r,F,U,rfl,H⟩:=oK (k:=4) Z2.len h1 D k E
 obtain⟨b,C,rfl,I,J⟩:=H.cells
 exact⟨b,C,r,F,I,J⟩
theorem IF{l:RL}{v:T}(h:Mb 3 l v):lenI v=some (.i .i64 (l.length:Int))∧ ∀k (E:k<l.length),∃b C r,(∀kk,sH v (.i kk (k:Int)) 3=some (.vp (.i .i64 l[k].2.op:: .i .i64 l[k].2.num::b::r)))∧g8 b l[k].2.args.length C∧iO l[k].2.args C:=by
 obtain⟨n,cs,h1,K,D,N⟩:=h
 rw[if_neg (by decide)]at D
 have J:=iO.len D
 rw[List.length_map]at J
 have e:n=l.length:=by omega
 subst e
 refine⟨h1.lenI,fun k E=> ?_⟩
 have XP:k<(l.map Prod.snd).length:=by simpa using E
 obtain⟨b,C,r,F,H,I⟩:=XZ (xs:=l.map Prod.snd) (by rw[List.length_map];exact h1) D k XP
 rw[List.getElem_map]at F H I
 exact⟨b,C,r,F,H,I⟩
def NP(m r1 r2 r3 c1 c2 c3 cr nb:T):List T:= [m,.nilsl,r1,r2,r3,.nilsl,c1,c2,c3,cr,nb]
section
variable(c:Ct)(zT aT fT a7 a8 a9 a10 hZ hU m r1 r2 r3 c1 c2 c3 cr nb:T)(A:List Int)(nL:T)(jZ:g8 nL A.length (ints A))
theorem PZ(jZ:g8 nL A.length (ints A)):gS pE 120 [.i .i64 1,nL] []=some (nL,[]):=by
 rw[gX ad3 (by simp[TY])]
 simp only[qA,seval,TY,jZ.froz]
include jZ
theorem axV(l:RL)(J:Mb 4 l r1)(K: ∀u∈l,G9 A u.2)(hlen:l.length≤1000)(r:Bool)(L2:r=uc A l)(o:Out)(I:o=if r=true then .ext 0 else .ret)(fr:Fr)(lh:hJ gR)(sh:List gR)(C:an fr 0=oh c zT aT fT a7 a8 a9 a10 hZ hU (NP m r1 r2 r3 c1 c2 c3 cr nb))(h1:an fr 1= .i .i64 1)(E:an fr 2=nL)(D:an fr 17= .i .i64 (l.length:Int))(F:an fr 18= .i .i64 0):
  kV 34 A7 fr lh sh o∧
  ((r=false→an (kh pE 34 A7 fr lh sh) 6= .b false)∧kb pE 34 A7 fr lh sh=sh):=by
 refine jo (fun k st=> ∃(fr:Fr) (lh:hJ gR),st=⟨fr,lh,sh⟩∧r=uc A (l.drop k)∧an fr 0=oh c zT aT fT a7 a8 a9 a10 hZ hU (NP m r1 r2 r3 c1 c2 c3 cr nb)∧an fr 1= .i .i64 1∧an fr 2=nL∧an fr 17= .i .i64 (l.length:Int)∧an fr 18= .i .i64 (k:Int))
  (fun N il O=>(r=false→an N 6= .b false)∧O=sh) _ l.length ?_ ?_ fr lh sh ⟨fr,lh,rfl,L2,C,h1,E,D,F⟩
 ·rintro k _ H ⟨fr,lh,rfl,L2,C,h1,E,D,F⟩
  have U:(k:Int)<l.length:=by omega
  have V:=iG (k:=k) (by omega)
  obtain⟨b,W,X,Y,Z,oV⟩:=(YD J).2 k H
  have hv:=IG A nL jZ l[k].2 b W X Z oV (K _ (List.getElem_mem H))
  rw[List.drop_eq_getElem_cons H]at L2
  rw[show uc A (l[k]::l.drop (k+1))=(decide (l[k].2.val A≠0)&&uc A (l.drop (k+1)))from rfl]at L2
  generalize l[k]=u at*
  generalize u.2.val A=x at*
  have hz:=jZ.froz
  unfold oh iS NP at C ⊢
  simp only[List.cons_append,List.nil_append]at C ⊢
  simp only[qB,seval,kR,A7,C,h1,E,D,F,U,Y,V,hv,hz,wo]
  refine vh (fun h=> ?_) (fun h=> ?_)
  ·rw[decide_eq_false (by simpa using h),Bool.false_and]at L2
   exact vi ⟨by rw[I,L2];rfl,fun _=>(by simp only[qA,seval]),rfl⟩
  ·rw[decide_eq_true h,Bool.true_and]at L2
   exact iN ⟨_,_,rfl,L2,by simp only[qA,seval,C],by simp only[qA,seval,h1],by simp only[qA,seval,E],by simp only[qA,seval,D],by simp only[qA,seval]⟩
 ·rintro _ ⟨fr,lh,rfl,L2,C,h1,E,D,F⟩
  rw[List.drop_length]at L2
  simp only[qA,seval,A7,D,F,Int.lt_irrefl]
  exact jD ⟨by rw[I,L2];rfl,fun h=>(by rw[L2]at h;cases h),rfl⟩
theorem YE(l:RL)(r:Mb 4 l r1)(D: ∀u∈l,G9 A u.2)(hlen:l.length≤1000):gS pE 76 [oh c zT aT fT a7 a8 a9 a10 hZ hU (NP m r1 r2 r3 c1 c2 c3 cr nb),.i .i64 1,nL] []=some (.b (uc A l),[]):=by
 have C:=fun fr lh sh E h1 F H I=>axV c zT aT fT a7 a8 a9 a10 hZ hU m r1 r2 r3 c1 c2 c3 cr nb A nL jZ l r D hlen _ rfl _ rfl fr lh sh E h1 F H I
 have CJ:=PZ A nL jZ
 have J:=(YD r).1
 have K:=jZ.froz
 unfold oh iS NP at*
 simp only[List.cons_append,List.nil_append]at*
 rw[gX aoD (by simp[c76])]
 cases N:uc A l <;> rw[N]at C
 all_goals simp only[qA,seval,kR,c76,CJ,J,C,K,ad4]
theorem axW(l:RL)(I:Mb 3 l c1)(J: ∀u∈l,G9 A u.2)(hlen:l.length≤1000)(fr:Fr)(lh:hJ gR)(sh:List gR)(r:an fr 0=oh c zT aT fT a7 a8 a9 a10 hZ hU (NP m r1 r2 r3 c1 c2 c3 cr nb))(h1:an fr 1= .i .i64 1)(D:an fr 2=nL)(E:an fr 7= .i .i64 0)(C:an fr 18= .i .i64 (l.length:Int))(FR:an fr 19= .i .i64 0):
  kV 36 xh fr lh sh (.ext 0)∧
  (an (kh pE 36 xh fr lh sh) 7= .i .i64 (oM A l)∧kb pE 36 xh fr lh sh=sh):=by
 refine jo (fun k st=> ∃(fr:Fr) (lh:hJ gR) (n:Int),st=⟨fr,lh,sh⟩∧CI n ((l.drop k).map fun u=>u.2.val A)=oM A l∧an fr 0=oh c zT aT fT a7 a8 a9 a10 hZ hU (NP m r1 r2 r3 c1 c2 c3 cr nb)∧an fr 1= .i .i64 1∧an fr 2=nL∧an fr 7= .i .i64 n∧an fr 18= .i .i64 (l.length:Int)∧an fr 19= .i .i64 (k:Int))
  (fun K il N=>an K 7= .i .i64 (oM A l)∧N=sh) _ l.length ?_ ?_ fr lh sh ⟨fr,lh,0,rfl,rfl,r,h1,D,E,C,FR⟩
 ·rintro k _ H ⟨fr,lh,n,rfl,F,r,h1,D,E,C,FR⟩
  have O:(k:Int)<l.length:=by omega
  have U:=iG (k:=k) (by omega)
  obtain⟨b,V,W,X,Y,Z⟩:=(IF I).2 k H
  have hv:=IG A nL jZ l[k].2 b V W Y Z (J _ (List.getElem_mem H))
  rw[List.drop_eq_getElem_cons H,List.map_cons,CI]at F
  generalize l[k]=u at*
  generalize u.2.val A=x at*
  have hz:=jZ.froz
  unfold oh iS NP at r ⊢
  simp only[List.cons_append,List.nil_append]at r ⊢
  simp only[qB,seval,kR,xh,r,h1,D,E,C,FR,O,X,U,hv,hz,wo]
  exact iN ⟨_,_,_,rfl,F,by simp only[qA,seval,r],by simp only[qA,seval,h1],by simp only[qA,seval,D],by simp only[qA,seval],by simp only[qA,seval,C],by simp only[qA,seval]⟩
 ·rintro _ ⟨fr,lh,n,rfl,F,r,h1,D,E,C,FR⟩
  rw[List.drop_length,List.map_nil,CI]at F
  simp only[qA,seval,xh,C,FR,Int.lt_irrefl]
  exact jD ⟨rfl,by simp only[qA,seval,E,F],rfl⟩
theorem YF(l:RL)(r:Mb 3 l c1)(C: ∀u∈l,G9 A u.2)(hlen:l.length≤1000):gS pE 164 [oh c zT aT fT a7 a8 a9 a10 hZ hU (NP m r1 r2 r3 c1 c2 c3 cr nb),.i .i64 1,nL] []=some (.i .i64 (oM A l),[]):=by
 have D:=fun fr lh sh E h1 F H I FR=>axW c zT aT fT a7 a8 a9 a10 hZ hU m r1 r2 r3 c1 c2 c3 cr nb A nL jZ l r C hlen fr lh sh E h1 F H I FR
 have CJ:=PZ A nL jZ
 have J:=(IF r).1
 have K:=jZ.froz
 unfold oh iS NP at*
 simp only[List.cons_append,List.nil_append]at*
 rw[gX Vf (by simp[T5])]
 simp only[qA,seval,kR,T5,CJ,J,D,K,ad4]
theorem axX(l:RL)(F:Mb 3 l cr)(H: ∀u∈l,G9 A u.2)(fr:Fr)(lh:hJ gR)(sh:List gR)(D:an fr 0=oh c zT aT fT a7 a8 a9 a10 hZ hU (NP m r1 r2 r3 c1 c2 c3 cr nb))(h1:an fr 1=nL)(r:an fr 10= .i .i64 (l.length:Int))(C:an fr 11= .i .i64 0):
  kV 26 uI fr lh sh (if l= []then Out.ext 0 else Out.ret)∧
  ((l≠ []→an (kh pE 26 uI fr lh sh) 4= .i .i64 (rV A l))∧kb pE 26 uI fr lh sh=sh):=by
 refine jo (fun k st=>st=⟨fr,lh,sh⟩) (fun I Y J=>(l≠ []→an I 4= .i .i64 (rV A l))∧J=sh) _ 0 (fun k st K=>absurd K (by omega)) ?_ fr lh sh rfl
 rintro _ rfl
 have N:=jZ.froz
 cases l with
 |nil=>
  rw[List.length_nil]at r
  have r:an fr 10= .i .i64 0:=r
  simp only[qA,seval,uI,r,C,Int.lt_irrefl]
  exact jD ⟨rfl,fun h=>h.elim,rfl⟩
 |cons u l=>
  obtain⟨b,O,E,U,V,W⟩:=(IF F).2 0 (by simp)
  have X:=IG A nL jZ u.2 b O E V W (H u (by simp))
  have BL: ∀kk,sH cr (.i kk 0) 3=some (.vp (.i .i64 u.2.op:: .i .i64 u.2.num::b::E)):=U
  have Cz:(0:Int)<((l.length+1:Nat):Int):=by omega
  unfold oh iS NP at D
  simp only[List.cons_append,List.nil_append]at D
  simp only[qA,seval,forall_const,uI,D,h1,r,C,BL,Cz,X,N,wo]
  exact vi ⟨rfl,(by unfold rV;simp only[qA,seval]),rfl⟩
theorem YG(l:RL)(I:Mb 3 l cr)(K: ∀u∈l,G9 A u.2)(U:A.length=11):gS pE 165 [oh c zT aT fT a7 a8 a9 a10 hZ hU (NP m r1 r2 r3 c1 c2 c3 cr nb),nL] []=some (.i .i64 (rV A l),[]):=by
 have C:=fun fr lh sh N h1 D E=>axX c zT aT fT a7 a8 a9 a10 hZ hU m r1 r2 r3 c1 c2 c3 cr nb A nL jZ l I K fr lh sh N h1 D E
 have J:=(IF I).1
 have O:=jZ.froz1
 have F: ∃r,∀kk,sH nL (.i kk 3) 1=some (.vp (.i .i64 (A.getD 3 0)::r)):=by
  refine⟨(ints A).drop 4,fun kk=> ?_⟩
  have:=jZ.ia (sz:=1) (k:=3) (kk:=kk) (by rw[kg];omega) (by omega)
  rw[show(3*1:Nat)=3 from rfl,xB A 3 (by omega)]at this
  rw[List.getD_eq_getElem?_getD,List.getElem?_eq_getElem (by omega)]
  exact this
 obtain⟨V,F⟩:=F
 unfold oh iS NP at*
 simp only[List.cons_append,List.nil_append]at*
 rw[gX Vg (by simp[QI])]
 by_cases H:l= []
 ·simp only[H,if_true]at C
  subst H
  have e:rV A []=A.getD 3 0:=rfl
  rw[e]
  simp only[qA,seval,QI,QH,J,C,F]
 ·simp only[H,if_false,ne_eq,not_false_eq_true,forall_const]at C
  generalize rV A l=x at*
  simp only[qA,seval,QI,J,C]
end
end Go.Proofs.YtblcbheipjeoeaaGreat
namespace Go.Ev
open Go
theorem YH{lh:hJ gR}{sh:List gR}{k g len sz wm:Nat}{cs:List T}{a b e f:Int}{s u:List Nat}{x:Bool}(h:a6 lh k=⟨g,.cells cs wm false⟩)(r:cs.length=len*sz)(C:len≠0):RJ lh sh 100 [.agg [.isl .L k g 0 len sz,.i .i64 a,.i .i64 b,.s s,.s u,.i .i64 e,.i .i64 f],.b x]=some (.tup [.agg [.sl cs len false,.i .i64 a,.i .i64 b,.s s,.s u,.i .i64 e,.i .i64 f],.b x],sh):=by
 have D:(St.mk .nil lh sh).get .L k=⟨g,.cells cs wm false⟩:=h
 have E:(fz false 8 (.tup [.agg [.nilsl,.i .i64 a,.i .i64 b,.s s,.s u,.i .i64 e,.i .i64 f],.b x])).run (St.mk .nil lh sh).get sh.length=some (.tup [.agg [.nilsl,.i .i64 a,.i .i64 b,.s s,.s u,.i .i64 e,.i .i64 f],.b x],[]):=rfl
 simp only[RJ,sA,lj,iE,iB,List.getElem?_cons_zero,List.set_cons_zero,show¬(100:Nat)<100 from by decide,if_false,show(100:Nat)/100-1=0 from rfl,show(100:Nat)%100=0 from rfl]
 rw[E]
 simp only[St.ups]
 rw[D]
 simp only
 rw[if_pos ⟨trivial,r,C,.inr rfl⟩]
 rfl
theorem SM{lh:hJ gR}{sh:List gR}{a b e f:Int}{s u:List Nat}{x:Bool}:RJ lh sh 100 [.agg [.nilsl,.i .i64 a,.i .i64 b,.s s,.s u,.i .i64 e,.i .i64 f],.b x]=some (.tup [.agg [.nilsl,.i .i64 a,.i .i64 b,.s s,.s u,.i .i64 e,.i .i64 f],.b x],sh):=rfl
theorem NQ{fr:Fr}{lh:hJ gR}{sh:List gR}{d len:Nat}{us:List Up}{cs:List T}{ex:Bool}{a b e f:Int}{s u:List Nat}{x:Bool}(h1:cs.all pU=true)(r:cs.length/len*len=cs.length):rz d 100 (.tup [.agg [.sl cs len ex,.i .i64 a,.i .i64 b,.s s,.s u,.i .i64 e,.i .i64 f],.b x]) ⟨fr,lh,sh⟩ us=
  some (.tup [.agg [.isl .L d ((a6 lh d).g+1) 0 len (cs.length/len),.i .i64 a,.i .i64 b,.s s,.s u,.i .i64 e,.i .i64 f],.b x],⟨fr,pk lh d ⟨(a6 lh d).g+1,.cells cs 0 false⟩,sh⟩):=by
 simp only[rz,lj,List.getElem?_cons_zero,show¬(100:Nat)<100 from by decide,if_false,show(100:Nat)/100-1=0 from rfl,show(100:Nat)%100=0 from rfl]
 rw[if_pos ⟨h1,r⟩]
 rfl
theorem Ld{fr:Fr}{lh:hJ gR}{sh:List gR}{d:Nat}{us:List Up}{a b e f:Int}{s u:List Nat}{x:Bool}:rz d 100 (.tup [.agg [.nilsl,.i .i64 a,.i .i64 b,.s s,.s u,.i .i64 e,.i .i64 f],.b x]) ⟨fr,lh,sh⟩ us=some (.tup [.agg [.nilsl,.i .i64 a,.i .i64 b,.s s,.s u,.i .i64 e,.i .i64 f],.b x],⟨fr,lh,sh⟩):=rfl
end Go.Ev
namespace Go.Proofs.YtblcbheipjeoeaaGreat
open Go Go.Ev
structure Lg where
 du:List (Int×Bool)
 rp:Int
 rl:Int
 fr:List Nat
 to:List Nat
 co:Int
 cr:Int
def ue(g:Lg)(v:T):List T:= [v,.i .i64 g.rp,.i .i64 g.rl,.s g.fr,.s g.to,.i .i64 g.co,.i .i64 g.cr]
def TB:Lg:=⟨[],0,0,[],[],0,0⟩
def y8(d:List (Int×Bool)):List T:=d.flatMap fun k=> [.i .i64 k.1,.b k.2]
theorem AQ(d:List (Int×Bool)):(y8 d).length=d.length*2:=tQ (sz:=2) (fun _=>rfl) d
theorem Le: ∀d:List (Int×Bool),(y8 d).all pU=true
 | []=>rfl
 |k::d=>by
  have:y8 (k::d)= [T.i .i64 k.1,.b k.2]++y8 d:=rfl
  rw[this,List.all_append,Le d];rfl
theorem IH: ∀{d:List (Int×Bool)} {i:List T},ic Yh d i→i=y8 d
 | [],i,h=>h
 |k::d,i,h=>by
  obtain⟨c,r,rfl,h1,C⟩:=h
  rw[Yh]at h1
  rw[h1,IH C];rfl
theorem EO: ∀d:List (Int×Bool),ic Yh d (y8 d)
 | []=>rfl
 |k::d=>⟨[.i .i64 k.1,.b k.2],y8 d,rfl,rfl,EO d⟩
theorem EA.sl{d:List (Int×Bool)}{v:T}(h:EA d v):g8 v d.length (y8 d):=by
 obtain⟨r,h1,i⟩:=h
 rwa [IH i]at h1
theorem EA.of{d:List (Int×Bool)}{v:T}(h:g8 v d.length (y8 d)):EA d v:=⟨_,h,EO d⟩
def ruS(c:Ct):RL:=AG c 1 c.ru.length
def SN(c:Ct):RL:=yV c 1 c.co.length
def Z8(c:Ct):RL:=Sw c c.cr.length
def okS(t:Tt)(c:Ct)(d:List (Int×Bool)):Bool:=uc (jU t c d) (ruS c)
def NR(t:Tt)(c:Ct)(d:List (Int×Bool)):Lg:=⟨d,tm c (kF t.fl d 0),tn c (kF t.fl d (d.length-1)),(kF t.fl d 0).fr,(kF t.fl d (d.length-1)).to,oM (jU t c d) (SN c),rV (jU t c d) (Z8 c)⟩
theorem asA{t:Tt}{c:Ct}(hc:my c=0){A:List Int}(C:Lb A):(∀u∈ruS c,G9 A u.2)∧(∀u∈SN c,G9 A u.2)∧(∀u∈Z8 c,G9 A u.2)∧(ruS c).length≤40∧(SN c).length≤40:=by
 obtain⟨h1,F,H,I,J,K,_⟩:=sS c hc
 unfold ruS SN Z8 AG yV Sw
 rw[List.take_length,List.take_length,List.take_length]
 refine⟨fun u i=> ?_,fun u i=> ?_,fun u i=> ?_, ?_, ?_⟩
 ·obtain⟨x,r,rfl⟩:=List.mem_map.1 i
  obtain⟨D,E⟩:=List.mem_filter.1 r
  have e:x.sc=1:=by simpa using E
  rw[e]
  exact(SL C (e▸h1 x D)).1
 ·obtain⟨x,r,rfl⟩:=List.mem_map.1 i
  obtain⟨D,E⟩:=List.mem_filter.1 r
  have e:x.sc=1:=by simpa using E
  rw[e]
  exact(SL C (e▸H x D)).1
 ·obtain⟨x,r,rfl⟩:=List.mem_map.1 i
  exact(SL C (J x r)).1
 ·rw[List.length_map];exact Nat.le_trans (List.length_filter_le _ _) F
 ·rw[List.length_map];exact Nat.le_trans (List.length_filter_le _ _) I
section
variable(t:Tt)(c:Ct)(zT aT fT a7 a8 a9 a10 hZ hU:T)(vs:List T)(hT:vq t zT aT fT)(hV:Ix t c vs)(ht:tq t=0)(hc:my c=0)(d:List (Int×Bool))(dT:T)(hd:EA d dT)(h1:1≤d.length)(hlen:d.length≤100)(iI: ∀k∈d,A0 t.fl.length k.1=true)
include hT ht hd h1 hlen iI
theorem Ha: ∃i j r1 r2:_,∃(hi:i<t.fl.length) (r:j<t.fl.length),kF t.fl d 0=t.fl[i]∧kF t.fl d (d.length-1)=t.fl[j]∧(∀kk,sH dT (.i kk 0) 2=some (.vp (.i .i64 (i:Int)::r1)))∧(∀kk,sH dT (.i kk ((d.length-1:Nat):Int)) 2=some (.vp (.i .i64 (j:Int)::r2))):=by
 have _:=hT
 obtain⟨i,hi,E,F,_⟩:=nJ (nh t ht).1 iI (k:=0) (by omega)
 obtain⟨j,r,H,I,_⟩:=nJ (nh t ht).1 iI (k:=d.length-1) (by omega)
 obtain⟨r1,C⟩:=rQ hd 0 (by omega)
 obtain⟨r2,D⟩:=rQ hd (d.length-1) (by omega)
 rw[E]at C
 rw[H]at D
 exact⟨i,j,_,_,hi,r,F,I,C,D⟩
theorem YI:gS pE 162 [oh c zT aT fT a7 a8 a9 a10 hZ hU vs,dT] []=some (.s (kF t.fl d 0).fr,[]):=by
 obtain⟨i,j,r1,r2,hi,E,r,F,C,H⟩:=Ha t zT aT fT hT ht d dT hd h1 hlen iI
 obtain⟨r3,D⟩:=wV t c zT aT fT a7 a8 a9 a10 hZ hU vs hT i hi
 rw[r]
 generalize t.fl[i]=f at*
 have Fj:=wQ c zT aT fT a7 a8 a9 a10 hZ hU vs
 rw[gX Vd (by simp[T3])]
 simp only[qA,seval,T3,C,D,Fj,zF]
theorem ajJ:gS pE 163 [oh c zT aT fT a7 a8 a9 a10 hZ hU vs,dT] []=some (.s (kF t.fl d (d.length-1)).to,[]):=by
 obtain⟨i,j,r1,r2,hi,r,I,C,J,D⟩:=Ha t zT aT fT hT ht d dT hd h1 hlen iI
 obtain⟨r3,E⟩:=wV t c zT aT fT a7 a8 a9 a10 hZ hU vs hT j r
 rw[C]
 generalize t.fl[j]=f at*
 have F:=oF (k:=d.length) (by omega) (by omega)
 have H:=hd.sl.lenI
 have Fj:=wQ c zT aT fT a7 a8 a9 a10 hZ hU vs
 rw[gX Ve (by simp[T4])]
 simp only[qA,seval,T4,H,F,D,E,Fj,zF]
include hc
theorem SO:gS pE 161 [oh c zT aT fT a7 a8 a9 a10 hZ hU vs,dT] []=some (.agg [.i .i64 (tm c (kF t.fl d 0)),.i .i64 (tn c (kF t.fl d (d.length-1)))],[]):=by
 obtain⟨i,j,r1,r2,hi,r,C,D,F,H⟩:=Ha t zT aT fT hT ht d dT hd h1 hlen iI
 have CV:=K9 t c zT aT fT a7 a8 a9 a10 hZ hU vs hT ht hc i j hi r
 rw[C,D]
 generalize tm c t.fl[i]=S at*
 generalize tn c t.fl[j]=E at*
 have I:=oF (k:=d.length) (by omega) (by omega)
 have J:=hd.sl.lenI
 have Fj:=wQ c zT aT fT a7 a8 a9 a10 hZ hU vs
 rw[gX aeu (by simp[T2])]
 simp only[qA,seval,iR,iy,T2,J,I,F,H,CV,Fj,Vj,apc]
include hV
theorem ac1:gS pE 103 [oh c zT aT fT a7 a8 a9 a10 hZ hU vs,dT] []=some (if okS t c d=true then .tup [.agg (ue (NR t c d) (.sl (y8 d) d.length false)),.b true]else .tup [.agg (ue TB .nilsl),.b false],[]):=by
 obtain⟨s1,r⟩:=ajH t c zT aT fT a7 a8 a9 a10 hZ hU vs hT hV ht hc d dT hd h1 hlen iI
 have E:=EN (t:=t) (c:=c) ht hc h1 hlen iI
 have CV:=SO t c zT aT fT a7 a8 a9 a10 hZ hU vs hT ht hc d dT hd h1 hlen iI
 have B8:=YI t c zT aT fT a7 a8 a9 a10 hZ hU vs hT ht d dT hd h1 hlen iI
 have F:=ajJ t c zT aT fT a7 a8 a9 a10 hZ hU vs hT ht d dT hd h1 hlen iI
 obtain⟨Y,Z,g3,g4,g5⟩:=asA (t:=t) hc E
 have jZ:g8 (.sl (ints (jU t c d)) 11 false) (jU t c d).length (ints (jU t c d)):= .inr ⟨false,by rw[E.1]⟩
 obtain⟨q,r1,r2,r3,c1,c2,c3,cr,nb,i,_,_,H,_,_,I,_,_,J⟩:=hV
 have i:vs=NP (.vm (q.map fun p=>sK p.1) (q.map fun p=>T.agg p.2)) r1 r2 r3 c1 c2 c3 cr (.b nb):=i
 have C:=YE c zT aT fT a7 a8 a9 a10 hZ hU (.vm (q.map fun p=>sK p.1) (q.map fun p=>T.agg p.2)) r1 r2 r3 c1 c2 c3 cr (.b nb) _ _ jZ (ruS c) H Y (by omega)
 have U:=YF c zT aT fT a7 a8 a9 a10 hZ hU (.vm (q.map fun p=>sK p.1) (q.map fun p=>T.agg p.2)) r1 r2 r3 c1 c2 c3 cr (.b nb) _ _ jZ (SN c) I Z (by omega)
 have W:=YG c zT aT fT a7 a8 a9 a10 hZ hU (.vm (q.map fun p=>sK p.1) (q.map fun p=>T.agg p.2)) r1 r2 r3 c1 c2 c3 cr (.b nb) _ _ jZ (Z8 c) J g3 E.1
 rw[←i]at C U W
 rw[show uc (jU t c d) (ruS c)=okS t c d from rfl]at C
 have Fj:=wQ c zT aT fT a7 a8 a9 a10 hZ hU vs
 have K:=fun lh sh=>hd.sl.slC (lh:=lh) (sh:=sh) (AQ d)
 have D:=hd.sl.froz
 have C3:d.length*16≤roomy:=by unfold roomy;omega
 have N:=AQ d
 have O:d.length≠0:=by omega
 have lI:isNe dT=true:=by
  rcases hd.sl with⟨_,h,_⟩|⟨ex,rfl⟩
  ·omega
  ·cases hq:d.length with
   |zero=>omega
   |succ m=>rfl
 obtain⟨n,X⟩: ∃n,d.length=n+1:=⟨d.length-1,by omega⟩
 have mF: ∀lh sh,appW lh sh 20 2 16 .nilsl dT=some (.isl .L 20 ((a6 lh 20).g+1) 0 d.length 2,pk lh 20 ⟨(a6 lh 20).g+1,.cells (y8 d) 0 false⟩):=fun lh sh=>by
  unfold appW
  rw[K,Option.bind_some,X,wM,if_pos (by rw[←X];exact C3)]
 unfold ue NR TB
 generalize tm c (kF t.fl d 0)=x1 at*
 generalize tn c (kF t.fl d (d.length-1))=x2 at*
 generalize (kF t.fl d 0).fr=x3 at*
 generalize (kF t.fl d (d.length-1)).to=x4 at*
 generalize oM (jU t c d) (SN c)=x5 at*
 generalize rV (jU t c d) (Z8 c)=x6 at*
 generalize oh c zT aT fT a7 a8 a9 a10 hZ hU vs=V at*
 have TC:froz (T.sl (ints (jU t c d)) 11 false)=true:=rfl
 generalize T.sl (ints (jU t c d)) 11 false=avT at*
 rw[aiA adM (by simp[Qr])]
 cases hb:okS t c d <;> rw[hb]at C
 ·simp only[Bool.false_eq_true,if_false]
  simp only[qA,seval,Qr,r,C,TC,Fj,D,SM,aet,aoE]
 ·simp only[if_true]
  simp only[qA,seval,iR,Bz,iy,qb,Qr,r,C,TC,U,W,CV,B8,F,Fj,D,lI,mF,aet,aoE,aoZ,ao0,ao1,ao2,ao3,ao4,ao5,ao6,ao7]
  exact YH (wm:=0) (by simp only[qA,seval]) N O
end
end Go.Proofs.YtblcbheipjeoeaaGreat
