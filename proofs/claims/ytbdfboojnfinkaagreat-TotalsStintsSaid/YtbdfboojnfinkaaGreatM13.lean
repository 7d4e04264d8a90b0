/- Walks of functions of the program and of the reference, and their plain laws, part 13. Conditions: the theorems' own. -/
import Derived.Test.YtbdfboojnfinkaaGreatM12
import Derived.KernelRfl
set_option maxRecDepth 100000
set_option linter.unusedSimpArgs false
set_option linter.unusedVariables false
set_option maxHeartbeats 16000000
namespace Go.Proofs.YtbdfboojnfinkaaGreat
open Go Go.Ev
theorem LA{scope:Int}{s:List Nat}{i:Nat}(h:Kb scope s=some i):(QC scope)[i]? =some s:=by
 unfold Kb kK at h
 have:=yn h
 rw[List.take_length]at this
 exact List.mk_mem_zipIdx_iff_getElem?.1 this
def LB(A:List Int):Prop:=A.length=11∧ ∀i s,iK[i]? =some s→CX (pH s) (A.getD i 0)
theorem Vg(l:Cs){A:List Int}(h:LB A):LC (Nm (Gr l) 1) (tW (mZ l) 1 A):=by
 intro s t hs
 unfold Nm at hs
 by_cases D:kA 1 s≠0
 ·rw[if_pos D]at hs
  injection hs with hs _
  subst hs
  unfold tW
  cases E:Kb 1 s with
  |none=>exact absurd ((qy 1 s).1 E) D
  |some i=>exact h.2 i s (LA E)
 ·rw[if_neg D]at hs
  have E:=(qy 1 s).2 (by simpa using D)
  unfold tW
  rw[E]
  exact Gs l s t hs
theorem CY{k k' v:Int}(h:k=k')(hv:CX k' v):CX k v:=h▸hv
theorem af2{v:Int}(h:bd v):CX 1 v:= .inl ⟨.inl rfl,h⟩
theorem PU{v:Int}(h:bd v):CX 2 v:= .inl ⟨.inr rfl,h⟩
theorem ao1{v:Int}(h:0≤v∧v≤1439):CX 3 v:= .inr (.inl ⟨rfl,h⟩)
theorem ZF{v:Int}(h: -1000000000≤v∧v≤1000000000):bd v:=by unfold bd;omega
theorem Vh(z:Zo)(x:Int):0≤z.clk x∧z.clk x≤1439:=by unfold Zo.clk;omega
theorem Vi{z:Zo}{A B f t:Int}(h1:0≤A)(h:B≤52596000):0≤z.bandM A B f t∧z.bandM A B f t≤52596000:=by
 have:=A1 (fun x=>kC (z.clk x) f t) A (B-A).toNat
 unfold Zo.bandM uG
 omega
theorem CZ{t:Tt}{c:Ct}(ht:rL t=0)(hc:l0 c=0){d:List (Int×Bool)}(h1:1≤d.length)(hlen:d.length≤100)(hall: ∀k∈d,yh t.fl.length k.1=true):LB (k9 t c d):=by
 have E:=(mL t ht).1
 obtain⟨c1,c2,c3,Y,Z,c6⟩:=Gn E hall d.length (Nat.le_refl _)
 obtain⟨i,hi,N,F,WS⟩:=nq E hall (k:=0) (by omega)
 obtain⟨j,H,O,I,D⟩:=nq E hall (k:=d.length-1) (by omega)
 obtain⟨b1,b2,_,_,_⟩:=Jf hc WS D
 have J:nh (AN t (kb t.fl d 0).fr)=0:=by rw[F];exact zI ht (nB ht (List.getElem_mem hi)).1
 have K:nh (AN t (kb t.fl d (d.length-1)).to)=0:=by rw[I];exact zI ht (nB ht (List.getElem_mem H)).2
 have U:=Zo.off_bd J (rj c (kb t.fl d 0))
 have V:=Zo.off_bd K (rk c (kb t.fl d (d.length-1)))
 have nb: -1000000000≤Gl t c (kb t.fl d 0) (kb t.fl d (d.length-1))∧Gl t c (kb t.fl d 0) (kb t.fl d (d.length-1))≤1000000000:=by
  unfold Gl
  split
  ·have:=Vi (z:=AN t (kb t.fl d 0).fr) (A:=rj c (kb t.fl d 0)) (B:=rk c (kb t.fl d (d.length-1))) (f:=c.nf) (t:=c.nt) (by omega) (by omega)
   omega
  ·omega
 have W: -1000000000≤Je t c (kb t.fl d 0) (kb t.fl d (d.length-1))∧Je t c (kb t.fl d 0) (kb t.fl d (d.length-1))≤1000000000:=by
  unfold Je;omega
 have X:0≤Lw t c (kb t.fl d 0)∧Lw t c (kb t.fl d 0)≤1439:=Vh _ _
 have k2:0≤Lx t c (kb t.fl d (d.length-1))∧Lx t c (kb t.fl d (d.length-1))≤1439:=Vh _ _
 refine⟨rfl,fun i s h=> ?_⟩
 unfold k9
 generalize qG t.fl d d.length=q at*
 clear U V J K N F O I hi H WS D E
 match i,h with
 |0,h=>cases h;exact CY (by decide) (af2 (ZF (by show _≤q.lg∧q.lg≤_;omega)))
 |1,h=>cases h;exact CY (by decide) (af2 (ZF (by show _≤q.hd∧q.hd≤_;omega)))
 |2,h=>cases h;exact CY (by decide) (af2 (ZF (by show _≤(q.ks.length:Int)∧(q.ks.length:Int)≤_;omega)))
 |3,h=>cases h;exact CY (by decide) (PU (ZF (by show _≤q.bk∧q.bk≤_;omega)))
 |4,h=>cases h;exact CY (by decide) (PU (ZF (by show _≤rk c (kb t.fl d (d.length-1))-rj c (kb t.fl d 0)∧rk c (kb t.fl d (d.length-1))-rj c (kb t.fl d 0)≤_;omega)))
 |5,h=>cases h;exact CY (by decide) (PU (ZF nb))
 |6,h=>cases h;exact CY (by decide) (PU (ZF (by show _≤q.lo∧q.lo≤_;omega)))
 |7,h=>cases h;exact CY (by decide) (PU (ZF (by show _≤q.so∧q.so≤_;omega)))
 |8,h=>cases h;exact CY (by decide) (PU (ZF W))
 |9,h=>cases h;exact CY (by decide) (ao1 X)
 |10,h=>cases h;exact CY (by decide) (ao1 k2)
 |n+11,h=>cases h
def Vj(l:Cs)(A:List Int)(x:Ex):Int:=x.val0 (tW (mZ l) 1 A)
theorem ZG{l:Cs}{A:List Int}(hA:LB A){x:Ex}(h:J7 l 1 x):Kc A (comp (mZ l) 1 x)∧(comp (mZ l) 1 x).val A=Vj l A x∧ ∃k,CX k (Vj l A x):=by
 obtain⟨_,hv,k,D⟩:=h
 have E:=(nL hv).1
 have I:=x.nodes_eq
 obtain⟨h1,F,H⟩:=Nn (Vg l hA) (show A.length=(QC 1).length from hA.1) x k (mM hv) (by omega) D
 exact⟨h1,F,k,H⟩
def pJ(A:List Int)(l:RL):Int:=match l with| []=>A.getD 3 0|u::_=>u.2.val A
theorem Vk{l:RL}{v:T}(h:UN 3 l v):lenI v=some (.i .i64 (l.length:Int))∧ ∀k (F:k<l.length),∃b D r,(∀kk,pv v (.i kk (k:Int)) 3=some (.vp (.i .i64 l[k].2.op:: .i .i64 l[k].2.num::b::r)))∧IsSl b l[k].2.args.length D∧iT l[k].2.args D:=by
 obtain⟨n,cs,h1,K,E,N⟩:=h
 rw[if_neg (by decide)]at E
 have hl:=iT.len E
 rw[List.length_map]at hl
 have e:n=l.length:=by omega
 subst e
 refine⟨h1.lenI,fun k F=> ?_⟩
 have UI:k<(l.map Prod.snd).length:=by simpa using F
 obtain⟨b,D,r,H,I,J⟩:=Vl (xs:=l.map Prod.snd) (by rw[List.length_map];exact h1) E k UI
 rw[List.getElem_map]at H I J
 exact⟨b,D,r,H,I,J⟩
def vsL(m r1 r2 r3 c1 c2 c3 cr nb:T):List T:= [m,.nilsl,r1,r2,r3,.nilsl,c1,c2,c3,cr,nb]
section
variable(c:Ct)(zT aT fT a7 a8 a9 iv iw iy m r1 r2 r3 c1 c2 c3 cr nb:T)(A:List Int)(rM:T)(hat:IsSl rM A.length (ints A))
include hat
theorem avu(l:RL)(H:UN 3 l cr)(I: ∀u∈l,Kc A u.2)(fr:Fr)(lh:iz ib)(sh:List ib)(E:an fr 0=pg c zT aT fT a7 a8 a9 iv iw iy (vsL m r1 r2 r3 c1 c2 c3 cr nb))(h1:an fr 1=rM)(h:an fr 10= .i .i64 (l.length:Int))(D:an fr 11= .i .i64 0):
  rD 26 wk fr lh sh (if l= []then Out.ext 0 else Out.ret)∧
  ((l≠ []→an (pw pE 26 wk fr lh sh) 4= .i .i64 (pJ A l))∧ng pE 26 wk fr lh sh=sh):=by
 refine lQ (fun k st=>st=⟨fr,lh,sh⟩) (fun J iN K=>(l≠ []→an J 4= .i .i64 (pJ A l))∧K=sh) _ 0 (fun k st N=>absurd N (by omega)) ?_ fr lh sh rfl
 rintro _ rfl
 have O:=hat.froz
 cases l with
 |nil=>
  rw[List.length_nil]at h
  have h:an fr 10= .i .i64 0:=h
  simp only[qA,seval,wk,h,D,Int.lt_irrefl]
  grind [mI]
 |cons u l=>
  obtain⟨b,U,F,V,W,X⟩:=(Vk H).2 0 (by simp)
  have hv:=Vm A rM hat u.2 b U F W X (I u (by simp))
  have Y: ∀kk,pv cr (.i kk 0) 3=some (.vp (.i .i64 u.2.op:: .i .i64 u.2.num::b::F)):=V
  have Z:(0:Int)<((l.length+1:Nat):Int):=by omega
  unfold pg jf vsL at E
  simp only[List.cons_append,List.nil_append]at E
  simp only[qA,seval,forall_const,wk,E,h1,h,D,Y,Z,hv,O,Ft]
  exact uD ⟨rfl,(by unfold pJ;simp only[qA,seval]),rfl⟩
theorem Vn(l:RL)(F:UN 3 l cr)(I: ∀u∈l,Kc A u.2)(hA:A.length=11):hZ pE 39 [pg c zT aT fT a7 a8 a9 iv iw iy (vsL m r1 r2 r3 c1 c2 c3 cr nb),rM] []=some (.i .i64 (pJ A l),[]):=by
 have hL:=fun fr lh sh J h1 h D=>avu c zT aT fT a7 a8 a9 iv iw iy m r1 r2 r3 c1 c2 c3 cr nb A rM hat l F I fr lh sh J h1 h D
 have H:=(Vk F).1
 have K:=hat.froz1
 have E: ∃r,∀kk,pv rM (.i kk 3) 1=some (.vp (.i .i64 (A.getD 3 0)::r)):=by
  refine⟨(ints A).drop 4,fun kk=> ?_⟩
  have:=hat.ia (sz:=1) (k:=3) (kk:=kk) (by rw[lB];omega) (by omega)
  grind [oG,List.getElem?_eq_getElem]
 obtain⟨N,E⟩:=E
 unfold pg jf vsL at*
 simp only[List.cons_append,List.nil_append]at*
 rw[im adH (by simp[c39])]
 by_cases hl:l= []
 ·simp only[hl,if_true]at hL
  subst hl
  have e:pJ A []=A.getD 3 0:=rfl
  rw[e]
  simp only[qA,seval,c39,QP,H,hL,E]
 ·simp only[hl,if_false,ne_eq,not_false_eq_true,forall_const]at hL
  generalize pJ A l=x at*
  simp only[qA,seval,c39,H,hL]
end
end Go.Proofs.YtbdfboojnfinkaaGreat
namespace Go.Ev
open Go
end Go.Ev
namespace Go.Proofs.YtbdfboojnfinkaaGreat
open Go Go.Ev
structure Lg where
 du:List (Int×Bool)
 rp:Int
 rl:Int
 fr:List Nat
 to:List Nat
 co:Int
 cr:Int
def duC(d:List (Int×Bool)):List T:=d.flatMap fun k=> [.i .i64 k.1,.b k.2]
theorem No: ∀{d:List (Int×Bool)} {D:List T},iB TkR d D→D=duC d
 | [],D,h=>h
 |k::d,D,h=>by
  obtain⟨c,r,rfl,h1,E⟩:=h
  rw[TkR]at h1
  rw[h1,No E];rfl
theorem CJ.sl{d:List (Int×Bool)}{v:T}(h:CJ d v):IsSl v d.length (duC d):=by
 obtain⟨E,h1,D⟩:=h
 rwa [No D]at h1
def ruS(c:Ct):RL:=yC c 1 c.ru.length
def coS(c:Ct):RL:=AK c 1 c.co.length
def PV(c:Ct):RL:=PH c c.cr.length
theorem ao3{t:Tt}{c:Ct}(hc:l0 c=0){A:List Int}(hA:LB A):(∀u∈ruS c,Kc A u.2)∧(∀u∈coS c,Kc A u.2)∧(∀u∈PV c,Kc A u.2)∧(ruS c).length≤40∧(coS c).length≤40:=by
 obtain⟨h1,E,F,H,I,J,_⟩:=yg c hc
 unfold ruS coS PV yC AK PH
 rw[List.take_length,List.take_length,List.take_length]
 refine⟨fun u h=> ?_,fun u h=> ?_,fun u h=> ?_, ?_, ?_⟩
 ·obtain⟨x,D,rfl⟩:=List.mem_map.1 h
  grind [List.mem_filter.1,ZG]
 ·obtain⟨x,D,rfl⟩:=List.mem_map.1 h
  grind [List.mem_filter.1,ZG]
 ·grind [List.mem_map.1,ZG]
 ·grind
 ·grind
section
variable(t:Tt)(c:Ct)(zT aT fT a7 a8 a9 iv iw iy:T)(vs:List T)(hT:sI t zT aT fT)(hV:Gg t c vs)(ht:rL t=0)(hc:l0 c=0)(d:List (Int×Bool))(dT:T)(hd:CJ d dT)(h1:1≤d.length)(hlen:d.length≤100)(hall: ∀k∈d,yh t.fl.length k.1=true)
include hT ht hd h1 hlen hall
theorem Vo: ∃i j r1 r2:_,∃(hi:i<t.fl.length) (h:j<t.fl.length),kb t.fl d 0=t.fl[i]∧kb t.fl d (d.length-1)=t.fl[j]∧(∀kk,pv dT (.i kk 0) 2=some (.vp (.i .i64 (i:Int)::r1)))∧(∀kk,pv dT (.i kk ((d.length-1:Nat):Int)) 2=some (.vp (.i .i64 (j:Int)::r2))):=by
 have _:=hT
 obtain⟨i,hi,F,H,_⟩:=nq (mL t ht).1 hall (k:=0) (by omega)
 obtain⟨j,h,I,J,_⟩:=nq (mL t ht).1 hall (k:=d.length-1) (by omega)
 obtain⟨r1,D⟩:=rh hd 0 (by omega)
 obtain⟨r2,E⟩:=rh hd (d.length-1) (by omega)
 rw[F]at D
 rw[I]at E
 exact⟨i,j,_,_,hi,h,H,J,D,E⟩
include hc
theorem PW:hZ pE 38 [pg c zT aT fT a7 a8 a9 iv iw iy vs,dT] []=some (.agg [.i .i64 (rj c (kb t.fl d 0)),.i .i64 (rk c (kb t.fl d (d.length-1)))],[]):=by
 obtain⟨i,j,r1,r2,hi,D,F,H,I,J⟩:=Vo t zT aT fT hT ht d dT hd h1 hlen hall
 have h:=Jg t c zT aT fT a7 a8 a9 iv iw iy vs hT ht hc i j hi D
 rw[F,H]
 generalize rj c t.fl[i]=S at*
 generalize rk c t.fl[j]=E at*
 have K:=pQ (k:=d.length) (by omega) (by omega)
 have N:=hd.sl.lenI
 have Nl:=zF c zT aT fT a7 a8 a9 iv iw iy vs
 rw[im akT (by simp[c38])]
 simp only[qA,seval,iY,iC,c38,N,K,I,J,h,Nl,adV,atq]
include hV
end
theorem Gt{c:Ct}{fl:List Fl}{d:List (Int×Bool)}(h:sn c fl d=0):1≤d.length∧d.length≤6∧(∀k∈d,yh fl.length k.1=true)∧M5 c fl d=true:=by
 unfold sn at h
 split at h
 ·cases h
 split at h
 ·cases h
 split at h
 ·rename_i a
  split at h
  ·rename_i b;exact⟨by omega,by omega,List.all_eq_true.1 a,b⟩
  ·cases h
 ·cases h
section
variable(t:Tt)(c:Ct)(zT aT fT a7 a8 a9 iv iw iy:T)(vs:List T)(hT:sI t zT aT fT)(hC:tZ c a7 a8 a9 iv iw iy)(hN:Qy c)(d:List (Int×Bool))(dT:T)(hd:CJ d dT)(hlen:d.length≤1000)
include hT hd hlen
include hC hN
end
theorem Gu{s:List Nat}: ∀{l:List (List Nat)} {k:Nat},s∈l→ ∃i,∃hi:i<l.length,ixA s l k=((k+i:Nat):Int)∧l[i]=s
 | [],k,h=>by cases h
 |x::r,k,h=>by
  rw[ixA]
  by_cases e:x=s
  ·rw[if_pos e];exact⟨0,by simp,rfl,e⟩
  ·rw[if_neg e]
   rcases List.mem_cons.1 h with h|h
   ·grind
   ·obtain⟨i,hi,h1,D⟩:=Gu (k:=k+1) h
    exact⟨i+1,by simpa using hi,by rw[h1];congr 1;omega,by simpa using D⟩
section
variable(t:Tt)(c:Ct)(zT aT fT a7 a8 a9 iv iw iy:T)(hT:sI t zT aT fT)(hC:tZ c a7 a8 a9 iv iw iy)(ht:rL t=0)(hc:l0 c=0)
theorem Np(hT:sI t zT aT fT)(ht:rL t=0){s:List Nat}(hs:s∈t.ap.map Ap.cd): ∃a,hZ pE 71 [.agg [zT,aT,fT],.s s] []=some (.agg (qK (AN t s) a),[])∧Zy (AN t s) a:=by
 obtain⟨⟨V,h,I⟩,⟨ac,D,J⟩,⟨fc,W,f2⟩⟩:=hT
 obtain⟨_,l1,_,l2⟩:=Ld t ht
 have h1:=acF s t.ap aT ac D J (by omega)
 obtain⟨i,hi,X,K⟩:=Gu (k:=0) hs
 rw[List.length_map]at hi
 rw[List.getElem_map]at K
 have E:=(yf t ht).2.1 t.ap[i] (List.getElem_mem hi)
 have N:=acG t.ap[i].zn t.zo zT V h I (by omega)
 obtain⟨j,F,Y,O⟩:=Gu (k:=0) E
 rw[List.length_map]at F
 rw[List.getElem_map]at O
 rw[X,Nat.zero_add]at h1
 rw[Y,Nat.zero_add]at N
 have Z:=Lv ht (List.getElem_mem hi) (List.getElem_mem F) K O
 obtain⟨r1,h3⟩:=Ji D J i hi
 obtain⟨U,sc,r2,h4,H,s2⟩:=Jj h I j F
 rw[Z]
 refine⟨U, ?_,sc,H,s2⟩
 have hn: ¬((i:Nat):Int)<0:=by omega
 generalize t.ap[i]=u at*
 generalize t.zo[j]=z at*
 have h5:hZ pE 125 [.agg [zT,aT,fT],.s s] []=some (.tup [.agg (qK z U),.b true],[]):=by
  unfold qK
  rw[im aaR (by simp[Rf])]
  simp only[qA,seval,iY,iC,Rf,h1,N,h3,h4,hn,H.froz1,h.froz,D.froz,Xf,ad3,alC]
 unfold qK at*
 rw[im adW (by simp[c71])]
 simp only[qA,seval,c71,h5,H.froz1,h.froz1,D.froz1,W.froz1,alT]
end
theorem EN(z:Zo)(a:T)(D:Zy z a)(hv:nh z=0)(t:Int)(ht:sq t=true):hZ pE 74 [.agg (qK z a),.i .i64 t] []=some (.i .i64 (z.clk t),[]):=by
 have h1:=U6 z a D hv t ht
 have h:froz1 a=true:=by obtain⟨F,E,_⟩:=D;exact E.froz1
 unfold qK at*
 rw[im adY (by simp[c74])]
 simp only[qA,seval,c74,h1,h,alV]
section
variable(t:Tt)(c:Ct)(zT aT fT a7 a8 a9 iv iw iy:T)(hT:sI t zT aT fT)(hC:tZ c a7 a8 a9 iv iw iy)(ht:rL t=0)(hc:l0 c=0)
include hT hC ht hc
theorem Vp(f g:Fl)(W:f∈t.fl)(X:g∈t.fl):hZ pE 43 [.agg [zT,aT,fT],.agg (jf c a7 a8 a9 iv iw iy),.s f.fr,.s g.to,.agg [.i .i64 (rj c f),.i .i64 (rk c g)]] []=some (.tup [.i .i64 (rk c g-rj c f),.i .i64 (Gl t c f g),.i .i64 (Je t c f g),.i .i64 (Lw t c f),.i .i64 (Lx t c g)],[]):=by
 have I:=WQ t c zT aT fT a7 a8 a9 iv iw iy hT hC
 obtain⟨b1,b2,_,_,w3⟩:=Jf hc ((mL t ht).1 _ W) ((mL t ht).1 _ X)
 obtain⟨Y,J,OJ⟩:=Np t zT aT fT hT ht (nB ht W).1
 obtain⟨zb,K,ZD⟩:=Np t zT aT fT hT ht (nB ht X).2
 have N:=zI ht (nB ht W).1
 have V:=zI ht (nB ht X).2
 have nf:=Nj hc
 have i1:=A4 (x:=rj c f) (by omega)
 have i2:=A4 (x:=rk c g) (by omega)
 have o1:=tn _ Y OJ (nE N).2.1 N (rj c f)
 have o2:=tn _ zb ZD (nE V).2.1 V (rk c g)
 have l1:=EN _ Y OJ N _ i1
 have l2:=EN _ zb ZD V _ i2
 have d1:=Zo.off_bd N (rj c f)
 have d2:=Zo.off_bd V (rk c g)
 have Z:rj c f≤rk c g→_:=fun h=>afS _ Y OJ N (rj c f) (rk c g) c.nf c.nt ⟨by omega,by omega,by omega,by omega,by omega,by omega,by omega⟩
 have hni:Gl t c f g=if rj c f≤rk c g then(AN t f.fr).bandM (rj c f) (rk c g) c.nf c.nt else 0:=by
  grind [Gl,Zo.bandM,vB]
 have O:=OJ.choose_spec.1.froz1
 have U:=ZD.choose_spec.1.froz1
 have ca:=OJ.choose_spec.1.cells
 have cb:=ZD.choose_spec.1.cells
 rw[hni]
 unfold Je Lw Lx
 generalize rj c f=S at*
 generalize rk c g=E at*
 generalize AN t f.fr=F at*
 generalize AN t g.to=H at*
 have w4:wr .i64 (H.off E-F.off S)=H.off E-F.off S:=jw (by omega)
 have w5:wr .i64 (0-(H.off E-F.off S))=F.off S-H.off E:=by rw[jw (by omega)];omega
 have Wy:max (H.off E-F.off S) (F.off S-H.off E)=max (F.off S-H.off E) (H.off E-F.off S):=by omega
 generalize F.off S=p1 at*
 generalize H.off E=p2 at*
 unfold qK jf at*
 rw[im adL (by simp[c43])]
 by_cases D:S≤E
 ·have Z:=Z D
  rw[if_pos D]
  simp only[qA,seval,iY,mX,iC,c43,J,K,w3,w4,w5,D,Z,o1,o2,l1,l2,su,Wy,O,U,I,alk,alm,alo,RR,alp,alq,alr]
 ·rw[if_neg D]
  simp only[qA,seval,iY,mX,iC,c43,J,K,w3,w4,w5,D,o1,o2,l1,l2,su,Wy,O,U,I,alk,alm,alo,RR,alp,alq,alr]
end
def mN(l:List (List Nat×Int)):List T:=l.flatMap fun p=> [.s p.1,.i .i64 p.2]
theorem Vq(l:List (List Nat×Int)):(mN l).length=l.length*2:=r9 (sz:=2) (fun _=>rfl) l
theorem Vr(l:List (List Nat×Int))(p:List Nat×Int):mN l++ [.s p.1,.i .i64 p.2]=mN (l++ [p]):=by unfold mN;rw[List.flatMap_append];rfl
def kE(A:List Int):List (List Nat×Int):=iK.zip A
theorem ints_at{A:List Int}{v:T}(h:IsSl v A.length (ints A))(k:Nat)(D:k<A.length): ∃r,∀kk,pv v (.i kk (k:Int)) 1=some (.vp (.i .i64 A[k]::r)):=by
 refine⟨(ints A).drop (k+1),fun kk=> ?_⟩
 rw[h.ia (sz:=1) (by rw[lB];omega) D,Nat.mul_one,oG A k D]
theorem Vs(k:Nat)(h:k<11): ∃r,∀kk,pv (.sl (strs iK) 11 true) (.i kk (k:Int)) 1=some (.vp (.s (iK[k]'(by show k<11;exact h))::r)):=by
 have hs:IsSl (.sl (strs iK) 11 true) 11 (strs iK):= .inr ⟨true,rfl⟩
 refine⟨(strs iK).drop (k+1),fun kk=> ?_⟩
 rw[hs.ia (sz:=1) rfl h,Nat.mul_one,List.drop_eq_getElem_cons (by show k<11;exact h)]
 unfold strs
 rw[List.getElem_map]
theorem avx(A:List Int)(v:T)(hA:A.length=11)(hv:IsSl v A.length (ints A))(fr:Fr)(lh:iz ib)(sh:List ib)(h1:an fr 1=v)(F:an fr 5= .nilsl)(D:an fr 6= .sl (strs iK) 11 true)(E:an fr 7= .i .i64 0):
  rD 29 wo fr lh sh (.ext 0)∧
  (iP (lZ pE 29 wo fr lh sh) (an (pw pE 29 wo fr lh sh) 5) 27 2 11 (mN (kE A))∧ng pE 29 wo fr lh sh=sh):=by
 refine lQ (fun k st=> ∃(fr:Fr) (lh:iz ib),st=⟨fr,lh,sh⟩∧an fr 1=v∧an fr 6= .sl (strs iK) 11 true∧an fr 7= .i .i64 (k:Int)∧iP lh (an fr 5) 27 2 k (mN ((kE A).take k)))
  (fun K N O=>iP N (an K 5) 27 2 11 (mN (kE A))∧O=sh) _ 11 ?_ ?_ fr lh sh ⟨fr,lh,rfl,h1,D,E,by rw[F];exact iP.nil⟩
 ·rintro k _ H ⟨fr,lh,rfl,h1,D,E,h⟩
  have U:(k:Int)<11:=by omega
  have V:=iM (k:=k) (by omega)
  obtain⟨r1,I⟩:=Vs k H
  obtain⟨r2,OZ⟩:=ints_at hv k (by omega)
  have W:(kE A).length=11:=by unfold kE;rw[List.length_zip,hA];rfl
  have X:mN ((kE A).take (k+1))=mN ((kE A).take k)++ [.s (iK[k]'(by show k<11;exact H)),.i .i64 (A[k]'(by omega))]:=by
   rw[List.take_succ_eq_append_getElem (by omega),←Vr]
   unfold kE
   rw[List.getElem_zip]
  rw[X]
  generalize iK[k]'(by show k<11;exact H)=nm at*
  generalize A[k]'(by omega)=x at*
  have J:=uI (sh:=sh) h [.s nm,.i .i64 x] rfl (bytes:=24) (by unfold roomy;omega) true
  have AO:=h.notS
  have Jk:=qq h rfl
  generalize F:an fr 5=v5 at h J AO Jk
  simp only[qA,seval,repl,iY,iC,kV,wo,h1,F,D,E,U,I,OZ,V,AO,Jk,J.1]
  exact k7 ⟨_,_,rfl,by simp only[qA,seval,h1],by simp only[qA,seval,D],by simp only[qA,seval],by simp only[qA,seval];exact J.2.1⟩
 ·rintro _ ⟨fr,lh,rfl,h1,D,E,h⟩
  have W:(kE A).length=11:=by unfold kE;rw[List.length_zip,hA];rfl
  rw[List.take_of_length_le (by omega)]at h
  simp only[qA,seval,wo,D,E,Int.lt_irrefl]
  exact mI ⟨rfl,by simp only[qA,seval];exact h,rfl⟩
theorem PX(A:List Int)(v:T)(hA:A.length=11)(hv:IsSl v A.length (ints A)):hZ pE 44 [.i .i64 1,v] []=some (.sl (mN (kE A)) 11 false,[]):=by
 have hL:=fun fr lh sh h1 h D E=>avx A v hA hv fr lh sh h1 h D E
 have F:=fun m keep fr lh sh h1 h D E=>iP.fzW (m:=m) (keep:=keep) (sh:=sh) (hL fr lh sh h1 h D E).2.1
 have WR:=fun keep fr lh sh h1 h D E=>iP.fzV (keep:=keep) (sh:=sh) (hL fr lh sh h1 h D E).2.1
 have H:kz 11 (mN (kE A))= .sl (mN (kE A)) 11 false:=rfl
 rw[H]at F WR
 rw[im akZ (by simp[c44])]
 simp only[qA,seval,c44,CB,hL,WR,zB,Kq]
theorem ZH(l:List (List Nat))(k:Nat)(h:k<l.length):(l.map T.s)[k]? =some (.s l[k]):=by rw[List.getElem?_map,List.getElem?_eq_getElem h];rfl
theorem avy(f:Fl)(ks:List (List Nat))(hlen:ks.length≤1000)(g:Nat)(fr:Fr)(lh:iz ib)(sh:List ib)(D:iP lh (an fr 12) 98 1 ks.length (ks.map T.s))(U:an fr 14= .ptr .L 14 g 0)(V:an fr 16= .b false)(CN:an fr 17= .i .i64 0)(I:a6 lh 14=⟨g,.cells (od f) 0 true⟩):
  Lp pE 134 Bh fr lh sh (.ext 2) fun H l s=>an H 16= .b (decide (f.ty∈ks))∧l=lh∧s=sh:=by
 unfold od at I
 have J:=D.lenI
 refine px Bi (fun k H l s=>an H 16= .b (decide (f.ty∈ks.take k))∧an H 17= .i .i64 (k:Int)∧l=lh∧s=sh) ks.length ⟨by rw[V];simp,CN,rfl,rfl⟩ ?_ ?_
 ·rintro k H _ _ K N ⟨E,F,rfl,rfl⟩
  have W:(k:Int)<ks.length:=by omega
  have X:=iM (k:=k) (by omega)
  rcases D with⟨h,_,_⟩|⟨g2,wm,D,o98,hl,hp⟩
  ·omega
  have OY:=ZH ks k K
  have Y:decide (f.ty∈ks.take (k+1))=(decide (f.ty∈ks.take k)||decide (ks[k]=f.ty)):=by
   rw[List.take_succ_eq_append_getElem K]
   grind
  rw[D]at J
  cases O:decide (f.ty∈ks.take k) <;> rw[O]at E <;> simp only[qA,seval,gd,Bh,N,D,U,E,F,I,o98,J,W,K,OY,X,Y,O,Bool.false_or,Bool.true_or]
 ·rintro H _ _ N ⟨E,F,rfl,rfl⟩
  rw[List.take_length]at E
  simp only[qA,seval,gd,Bh,N,E,F,J,Int.lt_irrefl]
section
variable(t:Tt)(c:Ct)(zT aT fT a7 a8 a9 iv iw iy:T)(hT:sI t zT aT fT)(hC:tZ c a7 a8 a9 iv iw iy)(ht:rL t=0)(hc:l0 c=0)
theorem avA(hT:sI t zT aT fT)(ht:rL t=0)(d:List (Int×Bool))(dT:T)(hd:CJ d dT)(hlen:d.length≤100)(hall: ∀k∈d,yh t.fl.length k.1=true)(E4:ib)(fr:Fr)(lh:iz ib)(sh:List ib)(h2:an fr 2=dT)(h3:an fr 3= .ptr .L 3 1 0)(h4:an fr 4= .ptr .L 4 1 0)(I:an fr 7= .i .i64 0)(J:an fr 8= .i .i64 0)(K:an fr 9= .i .i64 0)(h:an fr 10= .i .i64 0)(D:an fr 11= .i .i64 1440)(h12:an fr 12= .nilsl)(N:an fr 13= .i .i64 0)(O:a6 lh 3=⟨1,.cells [zT,aT,fT] 0 true⟩)(U:a6 lh 4=E4):
  Lp pE 134 yI fr lh sh (.ext 0) fun f l s=>an f 7= .i .i64 (qG t.fl d d.length).lg∧an f 8= .i .i64 (qG t.fl d d.length).hd∧an f 9= .i .i64 (qG t.fl d d.length).bk∧an f 10= .i .i64 (qG t.fl d d.length).lo∧an f 11= .i .i64 (qG t.fl d d.length).so∧lenI (an f 12)=some (.i .i64 ((qG t.fl d d.length).ks.length:Int))∧a6 l 3=⟨1,.cells [zT,aT,fT] 0 true⟩∧a6 l 4=E4∧s=sh:=by
 have pX:=hd.sl.lenI
 refine px Hm (fun k f l s=>an f 7= .i .i64 (qG t.fl d k).lg∧an f 8= .i .i64 (qG t.fl d k).hd∧an f 9= .i .i64 (qG t.fl d k).bk∧an f 10= .i .i64 (qG t.fl d k).lo∧an f 11= .i .i64 (qG t.fl d k).so∧an f 13= .i .i64 (k:Int)∧iP l (an f 12) 98 1 (qG t.fl d k).ks.length ((qG t.fl d k).ks.map T.s)∧a6 l 3=⟨1,.cells [zT,aT,fT] 0 true⟩∧a6 l 4=E4∧s=sh) d.length ⟨I,J,K,h,D,N,by rw[h12];exact iP.nil,O,U,rfl⟩ ?_ ?_
 ·rintro k V l _ hk pr ⟨I,J,K,h,D,N,E,O,U,rfl⟩
  have iR:(k:Int)<d.length:=by omega
  have hw:=iM (k:=k) (by omega)
  have rB:=(mL t ht).1
  obtain⟨rr,iS⟩:=rh hd k hk
  obtain⟨i,hi,ei,ef,WS⟩:=nq rB hall hk
  obtain⟨fc,W,X⟩:=hT.f
  obtain⟨r2,F⟩:=sk W X i hi
  rw[←ef]at F
  obtain⟨c1,c2,c3,c4,c5,c6⟩:=Gn rB hall k (by omega)
  have pD:qG t.fl d (k+1)=if k=0 then QB (kb t.fl d k) d[k].2 (qG t.fl d k)else cnG (kb t.fl d (k-1)) (kb t.fl d k) (QB (kb t.fl d k) d[k].2 (qG t.fl d k)):=by rw[qG,Lz hk]
  have mw:=fun(iN:iz ib) (jb:List ib) (e:a6 iN 98=a6 l 98)=>uI (sh:=jb) (E.congr e) [.s (kb t.fl d k).ty] rfl (bytes:=16) (acD (by omega)) true
  have AO:=E.notS
  rw[ei]at iS
  obtain⟨_,f1,f2,f3,f4⟩:=id WS
  obtain⟨G,hG⟩: ∃G,(a6 l 14).g+1=G:=⟨_,rfl⟩
  have hD:=avy (kb t.fl d k) (qG t.fl d k).ks (by omega) G
  unfold od at hD
  generalize Y:an V 12=v12 at E mw AO
  generalize qG t.fl d k=s at*
  have w1:wr .i64 (s.lg+1)=s.lg+1:=jw (by omega)
  have w2:wr .i64 (s.hd+1)=s.hd+1:=jw (by omega)
  have w3:wr .i64 (s.bk+(kb t.fl d k).ar)=s.bk+(kb t.fl d k).ar:=jw (by omega)
  have w4:wr .i64 (s.bk+(kb t.fl d k).ar-(kb t.fl d k).dp)=s.bk+((kb t.fl d k).ar-(kb t.fl d k).dp):=by rw[jw (by omega)];omega
  have Z:adK (kb t.fl d k).ty s.ks=if(kb t.fl d k).ty∈s.ks then s.ks else s.ks++ [(kb t.fl d k).ty]:=rfl
  by_cases DV:k=0
  ·have H: ¬(0:Int)<(k:Int):=by omega
   rw[pD,if_pos DV]
   generalize kb t.fl d k=f at*
   generalize d[k].2=b at*
   cases b <;> by_cases hm:f.ty∈s.ks <;> simp only[qA,seval,gd,iY,mX,iC,repl,yI,Bi,pr,h2,h3,I,J,K,h,D,N,Y,O,U,pX,iR,hw,iS,F,w1,w2,w3,w4,H,hG,hD,lz,E,hm,Z,QB,AO,mw,List.length_append,List.map_append]
  ·have H:(0:Int)<(k:Int):=by omega
   have DQ:=pQ (k:=k) (by omega) (by omega)
   obtain⟨r3,Hg⟩:=rh hd (k-1) (by omega)
   obtain⟨j,hj,ej,eg,gok⟩:=nq rB hall (k:=k-1) (by omega)
   obtain⟨r4,hfb⟩:=sk W X j hj
   rw[←eg]at hfb
   rw[ej]at Hg
   have gap:=Ly WS gok
   have w5:wr .i64 ((kb t.fl d k).dp-(kb t.fl d (k-1)).ar)=(kb t.fl d k).dp-(kb t.fl d (k-1)).ar:=jw (by omega)
   rw[pD,if_neg DV]
   generalize kb t.fl d k=f at*
   generalize kb t.fl d (k-1)=g at*
   generalize d[k].2=b at*
   cases b <;> by_cases hm:f.ty∈s.ks <;> simp only[qA,seval,gd,iY,mX,iC,repl,yI,Bi,pr,h2,h3,I,J,K,h,D,N,Y,O,U,pX,iR,hw,iS,F,w1,w2,w3,w4,H,hG,hD,lz,E,hm,Z,cnG,QB,AO,mw,List.length_append,List.map_append,su,qv,Hg,hfb,DQ,w5]
 ·rintro V l _ pr ⟨I,J,K,h,D,N,E,O,U,rfl⟩
  simp only[qA,seval,gd,yI,pr,h2,I,J,K,h,D,N,E.lenI,O,U,pX,Int.lt_irrefl]
end
section
variable(t:Tt)(c:Ct)(zT aT fT a7 a8 a9 iv iw iy:T)(hT:sI t zT aT fT)(hC:tZ c a7 a8 a9 iv iw iy)(ht:rL t=0)(hc:l0 c=0)(d:List (Int×Bool))(dT:T)(hd:CJ d dT)(h1:1≤d.length)(hlen:d.length≤100)(hall: ∀k∈d,yh t.fl.length k.1=true)
include hT ht hd h1 hlen hall
theorem EO:hZ pE 41 [.agg [zT,aT,fT],dT] []=some (.agg (od (kb t.fl d 0)),[]):=by
 obtain⟨i,j,r1,r2,hi,I,h,J,D,K⟩:=Vo t zT aT fT hT ht d dT hd h1 hlen hall
 obtain⟨⟨N,O,U⟩,⟨ac,V,W⟩,⟨X,E,F⟩⟩:=hT
 obtain⟨r3,H⟩:=sk E F i hi
 rw[h]
 generalize t.fl[i]=f at*
 unfold od
 rw[im adI (by simp[c41])]
 simp only[qA,seval,iY,iC,c41,D,H]
theorem Jl:hZ pE 42 [.agg [zT,aT,fT],dT] []=some (.agg (od (kb t.fl d (d.length-1))),[]):=by
 obtain⟨i,j,r1,r2,hi,h,N,D,O,E⟩:=Vo t zT aT fT hT ht d dT hd h1 hlen hall
 obtain⟨⟨U,V,W⟩,⟨ac,X,Y⟩,⟨Z,F,H⟩⟩:=hT
 obtain⟨r3,I⟩:=sk F H j h
 rw[D]
 generalize t.fl[j]=f at*
 have J:=pQ (k:=d.length) (by omega) (by omega)
 have K:=hd.sl.lenI
 unfold od
 rw[im adJ (by simp[c42])]
 simp only[qA,seval,iY,iC,c42,K,J,E,I]
include hC hc
theorem Jm:hZ pE 20 [.agg [zT,aT,fT],.agg (jf c a7 a8 a9 iv iw iy),dT] []=some (.agg [.i .i64 (rj c (kb t.fl d 0)),.i .i64 (rk c (kb t.fl d (d.length-1)))],[]):=by
 have F:=WQ t c zT aT fT a7 a8 a9 iv iw iy hT hC
 have H:=EO t zT aT fT hT ht d dT hd h1 hlen hall
 have MU:=Jl t zT aT fT hT ht d dT hd h1 hlen hall
 obtain⟨_,_,_,_,WS⟩:=nq (mL t ht).1 hall (k:=0) (by omega)
 obtain⟨_,_,_,_,h⟩:=nq (mL t ht).1 hall (k:=d.length-1) (by omega)
 obtain⟨_,_,I,J,_⟩:=Jf hc WS h
 generalize kb t.fl d 0=f at*
 generalize kb t.fl d (d.length-1)=g at*
 generalize rj c f=S at*
 generalize rk c g=E at*
 have D:=hd.sl.froz
 unfold od jf at*
 rw[im adB (by simp[c20])]
 simp only[qA,seval,iY,iC,c20,H,MU,I,J,F,D,akV,akW,akX,akY]
theorem Vt:hZ pE 21 [.agg [zT,aT,fT],.agg (jf c a7 a8 a9 iv iw iy),dT] []=some (.sl (mN (kE (k9 t c d))) 11 false,[]):=by
 have J:=WQ t c zT aT fT a7 a8 a9 iv iw iy hT hC
 have K:=EO t zT aT fT hT ht d dT hd h1 hlen hall
 have MU:=Jl t zT aT fT hT ht d dT hd h1 hlen hall
 have h:=Jm t c zT aT fT a7 a8 a9 iv iw iy hT hC ht hc d dT hd h1 hlen hall
 obtain⟨i,hi,_,N,_⟩:=nq (mL t ht).1 hall (k:=0) (by omega)
 obtain⟨j,O,_,U,_⟩:=nq (mL t ht).1 hall (k:=d.length-1) (by omega)
 have D:=Vp t c zT aT fT a7 a8 a9 iv iw iy hT hC ht hc (kb t.fl d 0) (kb t.fl d (d.length-1)) (by rw[N];exact List.getElem_mem hi) (by rw[U];exact List.getElem_mem O)
 have hL:=fun E4 fr lh sh V W X Y Z h9 E F H np o3 o4=>avA t zT aT fT hT ht d dT hd hlen hall E4 fr lh sh V W X Y Z h9 E F H np o3 o4
 have hat:=PX (k9 t c d) (.sl (ints (k9 t c d)) 11 true) rfl (.inr ⟨true,rfl⟩)
 have I:=hd.sl.froz
 unfold k9 at*
 generalize qG t.fl d d.length=s at*
 generalize kb t.fl d 0=f at*
 generalize kb t.fl d (d.length-1)=g at*
 unfold ints at hat
 simp only[List.map_cons,List.map_nil]at hat
 generalize mN _=AC at*
 unfold od jf at*
 rw[im akF (by simp[c21])]
 simp only[qA,seval,repl,iY,iC,c21,Hm,hL,K,MU,h,D,hat,J,I,akV,akW,akX,akY,akE,asR,as7,as8,as9]
end
section
variable(t:Tt)(c:Ct)(zT aT fT a7 a8 a9 iv iw iy:T)(hT:sI t zT aT fT)(hC:tZ c a7 a8 a9 iv iw iy)(hN:Qy c)(hL: ∀f∈t.fl,f.nu.length≤mJ)(d:List (Int×Bool))(dT:T)(hd:CJ d dT)(hlen:d.length≤1000)
include hT hC hN hL hd hlen
theorem ZI: ∃v,hZ pE 45 [.agg [zT,aT,fT],.agg (jf c a7 a8 a9 iv iw iy),dT] []=some (.tup [v,.i .i64 (if mz t c≠0 then mz t c else sn c t.fl d)],[])∧((if mz t c≠0 then mz t c else sn c t.fl d)=0→v= .sl (mN (kE (k9 t c d))) 11 false)∧froz1 v=true:=by
 have I:=WQ t c zT aT fT a7 a8 a9 iv iw iy hT hC
 have D:=Gj t c zT aT fT a7 a8 a9 iv iw iy hT hC hN hL d dT hd hlen
 have F:=hd.sl.froz
 by_cases E:(if mz t c≠0 then mz t c else sn c t.fl d)=0
 ·have Zx:mz t c=0:=by
   by_cases h:mz t c=0
   ·exact h
   ·rw[if_pos h]at E;exact E
  have hs:sn c t.fl d=0:=by rw[if_neg (by simp[Zx])]at E;exact E
  obtain⟨ht,hc⟩:=Ln t c zT aT fT a7 a8 a9 iv iw iy hT hC hN Zx
  obtain⟨h1,J,hall,_⟩:=Gt hs
  have H:=Vt t c zT aT fT a7 a8 a9 iv iw iy hT hC ht hc d dT hd h1 (by omega) hall
  rw[E]at D ⊢
  refine⟨_, ?_,fun _=>rfl,rfl⟩
  rw[im adM (by simp[c45])]
  unfold jf at*
  simp only[qA,seval,c45,D,H,I,F,RO,akG]
 ·generalize (if mz t c≠0 then mz t c else sn c t.fl d)=e at*
  refine⟨.nilsl, ?_,fun h=>absurd h E,rfl⟩
  rw[im adM (by simp[c45])]
  unfold jf at*
  simp only[qA,seval,c45,D,E,I,F,RO]
end
theorem Gv{l:List (List Nat×Int)}{v:T}(h:IsSl v l.length (mN l))(j:Nat)(D:j<l.length): ∃r,∀kk,pv v (.i kk (j:Int)) 2=some (.vp (.s l[j].1:: .i .i64 l[j].2::r)):=by
 refine⟨mN (l.drop (j+1)),fun kk=> ?_⟩
 rw[h.ia (Vq l) D]
 simp_all[mN,zw]
theorem avC(s:List Nat)(l:List (List Nat×Int))(a:T)(H:IsSl a l.length (mN l))(hlen:l.length≤1000)(r:Int)(D:r=ixA s (l.map Prod.fst) 0)(o:Out)(K:o=if r<0 then .ext 0 else .ret)(fr:Fr)(lh:iz ib)(sh:List ib)(E:an fr 0=a)(h1:an fr 1= .s s)(F:an fr 5= .i .i64 0):
  rD 20 yR fr lh sh o∧
  ((¬r<0→an (pw pE 20 yR fr lh sh) 4= .i .i64 r)∧ng pE 20 yR fr lh sh=sh):=by
 refine lQ (fun k st=> ∃(fr:Fr) (lh:iz ib),st=⟨fr,lh,sh⟩∧r=ixA s ((l.drop k).map Prod.fst) k∧an fr 0=a∧an fr 1= .s s∧an fr 5= .i .i64 (k:Int))
  (fun N X O=>(¬r<0→an N 4= .i .i64 r)∧O=sh) _ l.length ?_ ?_ fr lh sh ⟨fr,lh,rfl,D,E,h1,F⟩
 ·rintro k _ J ⟨fr,lh,rfl,D,E,h1,F⟩
  have U:(k:Int)<l.length:=by omega
  have V:=iM (k:=k) (by omega)
  obtain⟨Y,W⟩:=Gv H k J
  have I:=H.lenI
  rw[List.drop_eq_getElem_cons J,List.map_cons,ixA]at D
  generalize l[k]=y at*
  simp only[qB,seval,yR,E,h1,F,I,U,W,V]
  refine wD (fun h=> ?_) (fun h=> ?_)
  ·rw[if_pos h]at D
   exact uD ⟨by rw[K,if_neg (by omega)],fun _=>(by simp only[qA,seval,D]),rfl⟩
  ·rw[if_neg h]at D
   exact k7 ⟨_,_,rfl,D,by simp only[qA,seval,E],by simp only[qA,seval,h1],by simp only[qA,seval]⟩
 ·rintro _ ⟨fr,lh,rfl,D,E,h1,F⟩
  rw[List.drop_length,List.map_nil,ixA]at D
  have I:=H.lenI
  simp only[qA,seval,yR,E,F,I,Int.lt_irrefl]
  grind [mI]
theorem Gw(s:List Nat)(l:List (List Nat×Int))(a:T)(D:IsSl a l.length (mN l))(hlen:l.length≤1000):hZ pE 47 [a,.s s] []=some (.i .i64 (ixA s (l.map Prod.fst) 0),[]):=by
 have hL:=fun fr lh sh E h1 F=>avC s l a D hlen _ rfl _ rfl fr lh sh E h1 F
 have Gq:=zL s (l.map Prod.fst) 0
 rw[im ak1 (by simp[c47])]
 generalize ixA s (l.map Prod.fst) 0=v at*
 by_cases h:v<0
 ·have e:=Gq h
  subst e
  simp only[qA,seval,c47,hL]
 ·simp only[h,if_false,not_false_eq_true,forall_const]at hL
  simp only[qA,seval,c47,hL]
theorem ZJ(k n:Int)(h:CX k n)(E:k≠4):hZ pE 132 [.i .i64 k,.i .i64 n] []=some (.i .i64 n,[]):=by
 rw[im aaV (by simp[Ki])]
 have l9:bd n→hZ pE 172 [.i .i64 n] []=some (.i .i64 n,[]):=by
  intro D
  have e:max (-1099511627776) (min 1099511627776 n)=n:=by unfold bd at D;omega
  rw[im Sm (by simp[Kl])]
  simp only[qA,seval,Kl,su,qv,e]
 rcases h with⟨h1|h1,h2⟩|⟨h1,h2,h3⟩|⟨h1,h2⟩
 ·have hc:=l9 h2
  subst h1
  simp only[qA,seval,Ki,hc,BQ]
 ·have hc:=l9 h2
  subst h1
  simp only[qA,seval,Ki,hc,BQ]
 ·have hs:=zH n (by unfold Av;omega)
  have e:n%1440=n:=by omega
  rw[e]at hs
  subst h1
  simp only[qA,seval,Ki,hs,L7]
 ·grind
theorem PY(s:List Nat):pH s≠4:=by
 grind [pH]
theorem PZ{l:List (List Nat)}(h:l.Nodup){i j:Nat}(hi:i<l.length)(D:j<l.length)(e:l[i]=l[j]):i=j:=by
 rcases Nat.lt_trichotomy i j with h1|h1|h1
 ·exact absurd e (List.pairwise_iff_getElem.1 h i j hi D h1)
 ·exact h1
 ·exact absurd e.symm (List.pairwise_iff_getElem.1 h j i D hi h1)
theorem P0{s:List Nat}{i:Nat}(h:Kb 1 s=some i):i<11∧ixA s iK 0=(i:Int):=by
 have h1:iK[i]? =some s:=LA h
 obtain⟨hi,e⟩:=List.getElem?_eq_some_iff.1 h1
 obtain⟨j,D,E,F⟩:=Gu (k:=0) (List.mem_of_getElem? h1)
 have:j=i:=PZ Jn D hi (by rw[F,e])
 exact⟨hi,by rw[E,this];simp⟩
section
variable(l:Cs)(lT vT rM:T)(cl:List T)(A:List Int)(hl:IsSl lT l.length cl)(l9:kN l cl)(hlen:l.length≤oh)(hv:IsSl vT l.length (ints (tX l l.length)))(hA:LB A)(hat:IsSl rM 11 (mN (kE A)))
def ao6(y:Ex):Prop:= ∀k cs,lv y cs→y.nodes≤100000→y.wf=true→y.ty (Nm (Gr l) 1) 0=(k,0)→hZ pE 76 [vT,lT,.i .i64 1,rM,.agg cs] []=some (.i .i64 (y.val0 (tW (mZ l) 1 A)),[])
include hl hv hat
theorem avD(xs:List Ex)(ih: ∀y∈xs,ao6 l lT vT rM A y)(a:T)(W:List T)(K:IsSl a xs.length W)(Z:jx xs W)(hn:jz xs≤100000)(sv:wP xs=true)(ts:List Int)(mV:pc (Nm (Gr l) 1) 0 xs= .ok ts)(op num:Int)(s:List Nat)(g:Nat)(fr:Fr)(lh:iz ib)(sh:List ib)
  (E:an fr 0=vT) (h1:an fr 1=lT) (F:an fr 2= .i .i64 1) (H:an fr 3=rM) (h:an fr 9= .ptr .L 9 g 0) (N:an fr 13= .nilsl) (I:an fr 14= .i .i64 0) (O:a6 lh 9=⟨g,.cells [.i .i64 op,.i .i64 num,.s s,a] 0 true⟩):
  rD 70 ni fr lh sh (.ext 0)∧
  (iP (lZ pE 70 ni fr lh sh) (an (pw pE 70 ni fr lh sh) 13) 63 1 xs.length (ints (kj (tW (mZ l) 1 A) xs))∧a6 (lZ pE 70 ni fr lh sh) 9=a6 lh 9∧ng pE 70 ni fr lh sh=sh):=by
 refine jc (P:=fun js X jb=>iP X (an js 13) 63 1 xs.length (ints (kj (tW (mZ l) 1 A) xs))∧a6 X 9=a6 lh 9∧jb=sh)
  (jm (fun k st=> ∃(fr:Fr) (J:iz ib),st=⟨fr,J,sh⟩∧an fr 0=vT∧an fr 1=lT∧an fr 2= .i .i64 1∧an fr 3=rM∧an fr 9= .ptr .L 9 g 0∧an fr 14= .i .i64 (k:Int)∧a6 J 9=a6 lh 9∧
    iP J (an fr 13) 63 1 k (ints (kj (tW (mZ l) 1 A) (xs.take k)))) _ xs.length ?_ ?_ 0 _ (Nat.zero_le _) ⟨fr,lh,rfl,E,h1,F,H,h,I,rfl,by rw[N];exact iP.nil⟩)
 ·rintro k _ A6 ⟨fr,J,rfl,E,h1,F,H,h,I,P2,D⟩
  left
  rw[O]at P2
  have iR:(k:Int)<xs.length:=by omega
  have U:=jQ xs
  have hyk:=l8 (List.getElem_mem A6)
  have hw:=iG (k:=k) (kI (by omega))
  obtain⟨b,cb,rr,iS,kg,tK,hb⟩:=nJ K Z k A6
  obtain⟨t,ht⟩:=Gx mV k A6
  have Y:=ih xs[k] (List.getElem_mem A6) t _ hb (by omega) (vw.1 sv _ (List.getElem_mem A6)) ht
  have V:=oe D (kI (by omega)) (sh:=sh) (T.i .i64 (xs[k].val0 (tW (mZ l) 1 A))) true
  have pD:kj (tW (mZ l) 1 A) (xs.take (k+1))=kj (tW (mZ l) 1 A) (xs.take k)++ [xs[k].val0 (tW (mZ l) 1 A)]:=by
   grind [List.take_succ_eq_append_getElem,sw]
  generalize xs[k].val0 (tW (mZ l) 1 A)=q at Y V pD
  generalize N:an fr 13=v13 at D V
  simp only[qA,seval,repl,ni,E,h1,F,H,h,N,I,P2,K.lenI,iR,iS,hw,Y,adZ,kg.froz1,hv.froz,hl.froz,hat.froz,D.notS,V.1]
  refine⟨_,rfl,_,_,rfl, ?_, ?_, ?_, ?_, ?_, ?_, ?_, ?_⟩
  all_goals first|(simp only[qA,seval,E,h1,F,H,h];done)|skip
  ·grind
  ·simp only[qA,seval]
   grind [sx]
 ·rintro _ ⟨fr,J,rfl,E,h1,F,H,h,I,P2,D⟩
  rw[O]at P2
  rw[List.take_length]at D
  simp only[qA,seval,ni,h,I,P2,K.lenI,Int.lt_irrefl]
  refine⟨_,_,qH,rfl,rfl, ?_,by rw[P2,O],rfl⟩
  simp only[qA,seval]
  exact D
include l9 hlen hA
theorem af4(x:Ex):ao6 l lT vT rM A x:=by
 induction x using Ex.ind with
 |h x ih=>
  intro k cs hx hn sv ht
  obtain⟨a,cc,rfl,ha,AJ⟩:=hx.cells
  obtain⟨h1,H,D,Gy,yo,AI⟩:=vC sv
  have hnd:=x.nodes_eq
  rw[im OE (by simp[Qs]),Ex.val0_eq]
  by_cases E:x.op=6
  ·rw[if_pos E]
   have D:=xZ 1 x.name
   unfold sg at D
   by_cases F:kA 1 x.name=0
   ·rw[if_pos F]at D
    rw[Ex.ty_eq,if_pos E,if_neg (by simp[my])]at ht
    unfold Nm at ht
    rw[if_neg (by simp[F])]at ht
    rw[←zN]at ht
    obtain⟨i,qh,I,DW,_⟩:=vD (Nat.le_refl _) ht
    have WT:=Gz l x.name lT cl hl l9 hlen
    rw[vE DW]at WT
    have e1:=fun kk=>rG (ts:=tX l l.length) (by rw[m8];exact hv) (k:=i) (by rw[m8];exact I) kk
    have W:tW (mZ l) 1 A x.name=(tX l l.length)[i]'(by rw[m8];exact I):=by
     unfold tW
     rw[(qy 1 x.name).2 F]
     simp_all[VX,Vu,Vv,List.take_length,m8]
    rw[W]
    simp only[qA,seval,Qs,E,F,D,vV,WT,L8,hl.froz,e1]
   ·rw[if_neg F]at D
    cases V:Kb 1 x.name with
    |none=>exact absurd ((qy 1 x.name).1 V) F
    |some i=>
     obtain⟨hi,J5⟩:=P0 V
     have X:(kE A).length=11:=by unfold kE;rw[List.length_zip,hA.1];rfl
     have Y:(kE A).map Prod.fst=iK:=by unfold kE;exact List.map_fst_zip (by rw[hA.1];exact Nat.le_refl _)
     have J:=Gw x.name (kE A) rM (by rw[X];exact hat) (by omega)
     rw[Y,J5]at J
     obtain⟨rr,iS⟩:=Gv (l:=kE A) (v:=rM) (by rw[X];exact hat) i (by omega)
     have OH:(kE A)[i].2=A.getD i 0:=by
      grind [kE]
     rw[OH]at iS
     have I:=hA.2 i x.name (LA V)
     have Z:kA 1 x.name=pH x.name:=rfl
     rw[Z]at D F
     have avE:=ZJ _ _ I (PY _)
     have W:tW (mZ l) 1 A x.name=A.getD i 0:=by unfold tW;rw[V]
     rw[W]
     generalize A.getD i 0=q at*
     generalize pH x.name=kk at*
     have avF:=hat.froz
     simp only[qA,seval,Qs,E,D,vV,J,adN,iS,avE,alW,avF]
  ·rw[if_neg E]
   obtain⟨ts,sH,hr,hk⟩:=vF ht E
   have hL:=fun fr lh sh K h1 H h3 h9 np jN o9=>avD l lT vT rM cl A hl hv hat x.args (fun y hy=>ih y hy) a cc ha AJ (by omega) AI ts sH x.op x.num x.name 1 fr lh sh K h1 H h3 h9 np jN o9
   have hO:=fun fr lh sh K h1 H h3 h9 np jN o9=>iP.fzV (sh:=sh) (keep:=false) (hL fr lh sh K h1 H h3 h9 np jN o9).2.1
   have X:=jQ x.args
   have I:=C0 (Vg l hA) (scope:=0) (fun s=>my s) AI sH
   have WH:=tq sH
   have N:(kj (tW (mZ l) 1 A) x.args).length=x.args.length:=by rw[sw,List.length_map]
   by_cases h5:x.op≤5
   ·have Ar:x.op=1∨x.op=2∨x.op=3∨x.op=4∨x.op=5:=by omega
    have O:=Jo x.op x.num Ar (kz x.args.length (ints (kj (tW (mZ l) 1 A) x.args)))
    have U:(if x.op=1∨x.op=2∨x.op=3 then x.num else if x.op=4 then 1 else if x.op=5 then 0 else DL x.op (kj (tW (mZ l) 1 A) x.args))=(if x.op=1∨x.op=2∨x.op=3 then x.num else if x.op=4 then 1 else 0):=by
     grind
    rw[U]
    generalize (if x.op=1∨x.op=2∨x.op=3 then x.num else if x.op=4 then 1 else 0)=q at O ⊢
    simp only[qA,seval,Qs,wV,E,hL,hO,O,L9]
   ·have h7:7≤x.op:=by omega
    have mw:=Nq I h7 H (by rw[WH];exact D) hr hk
    have O:=EP x.op x.num (kj (tW (mZ l) 1 A) x.args) (kz x.args.length (ints (kj (tW (mZ l) 1 A) x.args))) (by rw[N];exact mg (fun K=>by rw[K]at N;rw[List.length_eq_zero_iff.1 N];rfl)) (by rw[N];exact kI (by omega)) h7 H (by rw[N];exact D) mw.1
    rw[if_neg (by omega),if_neg (by omega),if_neg (by omega)]
    generalize DL x.op (kj (tW (mZ l) 1 A) x.args)=q at O ⊢
    simp only[qA,seval,Qs,wV,E,hL,hO,O,L9]
end
end Go.Proofs.YtbdfboojnfinkaaGreat
