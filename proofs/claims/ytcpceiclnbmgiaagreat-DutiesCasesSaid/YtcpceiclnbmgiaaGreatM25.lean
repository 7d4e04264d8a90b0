/- Walks of functions of the program and of the reference, and their plain laws, part 25. Conditions: the theorems' own. -/
import Derived.Test.YtcpceiclnbmgiaaGreatGS
import Derived.Test.YtcpceiclnbmgiaaGreatM16
import Derived.Test.YtcpceiclnbmgiaaGreatM19
import Derived.Test.YtcpceiclnbmgiaaGreatM20
import Derived.Test.YtcpceiclnbmgiaaGreatM23
import Derived.Test.YtcpceiclnbmgiaaGreatM24
import Derived.KernelRfl
set_option maxRecDepth 100000
set_option linter.unusedSimpArgs false
set_option linter.unusedVariables false
set_option maxHeartbeats 16000000
namespace Go.Proofs.YtcpceiclnbmgiaaGreat
open Go Go.Ev
def at3(l:List Int)(k:Nat):Int:=l.getD k 0
def rpB(k:Nat):Int:=at3 [0,45,60] k
def rlB(k:Nat):Int:=at3 [0,15,30] k
def S8(k:Nat):Int:=at3 [30,40,15] k
def FT(k:Nat):Int:=at3 [180,1440,60] k
def lyB(k:Nat):Int:=at3 [1440,960,2160] k
def nfB(k:Nat):Int:=at3 [1320,0,720] k
def ntB(k:Nat):Int:=at3 [360,300,720] k
def ctG(k:Nat→Nat)(r:List Ru)(D:List Co)(cr:List Ex):Ct:=⟨rpB (k 0),rlB (k 1),S8 (k 2),FT (k 3),lyB (k 4),nfB (k 5),ntB (k 5),[(yl,oO (k 6))],r,D,cr,[],[],0⟩
def dr{α:Type}(p:Nat→Bool):Nat→List α→List α
 |_,[]=> []
 |i,x::l=>if p i=true then x::dr p (i+1) l else dr p (i+1) l
theorem dU{α:Type}(p:Nat→Bool): ∀(i:Nat) (l:List α),(dr p i l).Sublist l
 |_,[]=>List.Sublist.slnil
 |i,x::l=>by
  rw[dr]
  split
  ·exact(dU p (i+1) l).cons_cons x
  ·exact(dU p (i+1) l).cons x
def kB(b:Nat→Int)(i:Nat):Nat:=(b i%3).toNat
def crX(b:Nat→Int):List Ex:=if b 41%4<3 then [D9.getD (b 41%4).toNat (.mk 1 2 [] [])]else []
def ln(b:Nat→Int):Ct:=ctG (kB b) (dr (fun i=>decide (b (7+i)%4=0)) 0 qo) (dr (fun i=>decide (b (30+i)%3=0)) 0 tC) (crX b)
theorem three{k:Nat}(P:Nat→Prop)(h0:P 0)(h1:P 1)(h2:P 2)(h:k≤2):P k:=by
 have:k=0∨k=1∨k=2:=zO
 rcases this with rfl|rfl|rfl <;> assumption
def MJ(l:Cs)(u:Ru):Bool:=mJ u.sc 1 3&&(jB u.nm&&(decide (bW u.x=0)&&decide (HC l u.sc u.x 4=0)))
def MK(l:Cs)(u:Co):Bool:=mJ u.sc 1 3&&(decide (bW u.x=0)&&decide (HC l u.sc u.x 1=0))
def ML(l:Cs)(x:Ex):Bool:=decide (bW x=0)&&decide (HC l 1 x 2=0)
theorem Pj(l:Cs): ∀(r:List Ru) (seen:List (Int×List Nat)),(∀u∈r,MJ l u=true)→(r.map fun u=>(u.sc,u.nm)).Nodup→(∀u∈r,(u.sc,u.nm)∉seen)→Hz seen r=0
 | [],_,_,_,_=>rfl
 |u::r,seen,h1,h2,h3=>by
  have h:=h1 u List.mem_cons_self
  unfold MJ at h
  simp only[Bool.and_eq_true,decide_eq_true_eq]at h
  obtain⟨a1,a2,F,H⟩:=h
  rw[List.map_cons,List.nodup_cons]at h2
  rw[Hz,if_neg (by simp[a1,a2]),if_neg (h3 u List.mem_cons_self),if_neg (by simp[F])]
  refine Pj l r _ (fun v D=>h1 v (List.mem_cons_of_mem _ D)) h2.2 fun v D hm=> ?_
  rcases List.mem_append.1 hm with hm|hm
  ·exact h3 v (List.mem_cons_of_mem _ D) hm
  ·rw[List.mem_singleton]at hm
   exact h2.1 (hm▸List.mem_map_of_mem (f:=fun u:Ru=>(u.sc,u.nm)) D)
theorem Pk(l:Cs): ∀(r:List Co),(∀u∈r,MK l u=true)→Jc r=0
 | [],_=>rfl
 |u::r,h1=>by
  have h:=h1 u List.mem_cons_self
  unfold MK at h
  simp only[Bool.and_eq_true,decide_eq_true_eq]at h
  rw[Jc,if_neg (by simp[h.1]),if_neg (by simp[h.2.1])]
  exact Pk l r fun v D=>h1 v (List.mem_cons_of_mem _ D)
theorem Pl(l:Cs): ∀(r:List Ex),(∀u∈r,ML l u=true)→Jd r=0
 | [],_=>rfl
 |u::r,h1=>by
  have h:=h1 u List.mem_cons_self
  unfold ML at h
  simp only[Bool.and_eq_true,decide_eq_true_eq]at h
  rw[Jd,if_neg (by simp[h.1])]
  exact Pl l r fun v D=>h1 v (List.mem_cons_of_mem _ D)
theorem Pm(l:Cs): ∀(r:List Ru),(∀u∈r,MJ l u=true)→Jh l r=0
 | [],_=>rfl
 |u::r,h1=>by
  have h:=h1 u List.mem_cons_self
  unfold MJ at h
  simp only[Bool.and_eq_true,decide_eq_true_eq]at h
  rw[Jh,if_neg (by simp[h.2.2.2])]
  exact Pm l r fun v D=>h1 v (List.mem_cons_of_mem _ D)
theorem Pn(l:Cs): ∀(r:List Co),(∀u∈r,MK l u=true)→Ji l r=0
 | [],_=>rfl
 |u::r,h1=>by
  have h:=h1 u List.mem_cons_self
  unfold MK at h
  simp only[Bool.and_eq_true,decide_eq_true_eq]at h
  rw[Ji,if_neg (by simp[h.2.2])]
  exact Pn l r fun v D=>h1 v (List.mem_cons_of_mem _ D)
theorem Po(l:Cs): ∀(r:List Ex),(∀u∈r,ML l u=true)→KO l r=0
 | [],_=>rfl
 |u::r,h1=>by
  have h:=h1 u List.mem_cons_self
  unfold ML at h
  simp only[Bool.and_eq_true,decide_eq_true_eq]at h
  rw[KO,if_neg (by simp[h.2])]
  exact Po l r fun v D=>h1 v (List.mem_cons_of_mem _ D)
theorem anO(k:Nat)(h:k≤2):qo.all (MJ [(yl,oO k)])=true:=three (fun k=>qo.all (MJ [(yl,oO k)])=true) (by decide+kernel) (by decide+kernel) (by decide+kernel) h
theorem anP(k:Nat)(h:k≤2):tC.all (MK [(yl,oO k)])=true:=three (fun k=>tC.all (MK [(yl,oO k)])=true) (by decide+kernel) (by decide+kernel) (by decide+kernel) h
theorem anQ(k:Nat)(h:k≤2):D9.all (ML [(yl,oO k)])=true:=three (fun k=>D9.all (ML [(yl,oO k)])=true) (by decide+kernel) (by decide+kernel) (by decide+kernel) h
theorem anR(k:Nat)(h:k≤2):KN [] [(yl,oO k)]=0∧L5 [(yl,oO k)] 0 [(yl,oO k)]=0:=three (fun k=>KN [] [(yl,oO k)]=0∧L5 [(yl,oO k)] 0 [(yl,oO k)]=0) (by decide+kernel) (by decide+kernel) (by decide+kernel) h
theorem anS:(qo.map fun u=>(u.sc,u.nm)).Nodup:=by decide+kernel
theorem anT(k:Nat→Nat)(hk: ∀i,k i≤2)(r:List Ru)(D:List Co)(cr:List Ex)(h1:r.Sublist qo)(h2:D.Sublist tC)(h3: ∀x∈cr,x∈D9)(h4:cr.length≤1):fI (ctG k r D cr)=0:=by
 have e1: ∀u∈r,MJ [(yl,oO (k 6))] u=true:=fun u F=>List.all_eq_true.1 (anO (k 6) (hk 6)) u (h1.subset F)
 have e2: ∀u∈D,MK [(yl,oO (k 6))] u=true:=fun u F=>List.all_eq_true.1 (anP (k 6) (hk 6)) u (h2.subset F)
 have e3: ∀u∈cr,ML [(yl,oO (k 6))] u=true:=fun u F=>List.all_eq_true.1 (anQ (k 6) (hk 6)) u (h3 u F)
 obtain⟨H,I⟩:=anR (k 6) (hk 6)
 have X:r.length≤18:=h1.length_le
 have Y:D.length≤10:=h2.length_le
 have hr:jD (ctG k r D cr)=true:=by
  have a0:mJ (rpB (k 0)) 0 1440=true:=three (fun k=>mJ (rpB k) 0 1440=true) rfl rfl rfl (hk 0)
  have a1:mJ (rlB (k 1)) 0 1440=true:=three (fun k=>mJ (rlB k) 0 1440=true) rfl rfl rfl (hk 1)
  have a2:mJ (S8 (k 2)) 0 1440=true:=three (fun k=>mJ (S8 k) 0 1440=true) rfl rfl rfl (hk 2)
  have J: ∀j,j≤2→mJ (FT (k 3)) (S8 j) 1440=true:=fun j K=>three (fun j=>mJ (FT (k 3)) (S8 j) 1440=true) (three (fun k=>mJ (FT k) (S8 0) 1440=true) rfl rfl rfl (hk 3)) (three (fun k=>mJ (FT k) (S8 1) 1440=true) rfl rfl rfl (hk 3)) (three (fun k=>mJ (FT k) (S8 2) 1440=true) rfl rfl rfl (hk 3)) K
  have O:mJ (lyB (k 4)) 0 10080=true:=three (fun k=>mJ (lyB k) 0 10080=true) rfl rfl rfl (hk 4)
  have U:mJ (nfB (k 5)) 0 1439=true:=three (fun k=>mJ (nfB k) 0 1439=true) rfl rfl rfl (hk 5)
  have V:mJ (ntB (k 5)) 0 1439=true:=three (fun k=>mJ (ntB k) 0 1439=true) rfl rfl rfl (hk 5)
  unfold jD ctG
  simp only[a0,a1,a2,J _ (hk 2),O,U,V,Bool.true_and]
  rfl
 have hs:jM (ctG k r D cr)=true:=by
  unfold jM ctG
  simp only[Bool.and_eq_true,decide_eq_true_eq,List.length_cons,List.length_nil]
  omega
 have W:fR (ctG k r D cr)=0:=by
  unfold fR
  rw[if_neg (by simp[hr]),if_neg (by simp[hs])]
  unfold ctG
  simp only
  rw[if_neg (by simp[H]),Pj _ r [] e1 (anS.sublist (h1.map _)) xv,if_neg xv,Pk _ D e2,if_neg xv,Pl _ cr e3,if_neg xv]
  rfl
 unfold fI
 rw[if_neg (by simp[W])]
 unfold ctG
 simp only
 rw[if_neg (by simp[I]),Pm _ r e1,if_neg xv,Pn _ D e2,if_neg xv,Po _ cr e3]
theorem rq(b:Nat→Int)(i:Nat):kB b i≤2:=by unfold kB;omega
theorem xx(b:Nat→Int):(∀x∈crX b,x∈D9)∧(crX b).length≤1:=by
 unfold crX
 split
 ·rename_i h
  refine⟨fun x hx=> ?_,by simp⟩
  rw[List.mem_singleton]at hx
  subst hx
  have hk:(b 41%4).toNat<D9.length:=by show(b 41%4).toNat<3;omega
  rw[List.getD_eq_getElem?_getD,List.getElem?_eq_getElem hk]
  exact List.getElem_mem hk
 ·exact⟨fun x hx=>by simp at hx,by simp⟩
theorem anU(b:Nat→Int):fI (ln b)=0:=anT _ (rq b) _ _ _ (dU _ _ _) (dU _ _ _) (xx b).1 (xx b).2
def HK(o:Nat→Int)(n:Nat):List Nat:=(List.range n).filter fun i=>decide (0<o i%8)
def opI(o:Nat→Int)(n:Nat):List Int:=(HK o n).map Int.ofNat
theorem Pp(a:Nat→Int):(ttB a).fl.length=EH a:=Kg a _ _ _ _
section
variable(d e:List (Int×Bool))(a b:T)(ha:IsSl a d.length (gh d))(hb:IsSl b e.length (gh e))(hd:d.length≤4611686018427387000)(he:e.length≤4611686018427387000)
include ha hb hd he
end
def bN(xs:List Int)(i:Nat):Int:=if xs.length=0 then(i:Int)%65536 else xs.getD (i%xs.length) 0%65536+((i/xs.length:Nat):Int)
theorem rv(xs:List Int)(i:Nat):0≤bN xs i:=by
 unfold bN;split
 ·omega
 ·have:(0:Int)≤((i/xs.length:Nat):Int):=Int.natCast_nonneg _
  omega
theorem eS{a b:Int}(h:0≤a):a.tmod b=a%b:=by rw[Int.tmod_eq_emod_of_nonneg h]
theorem jP(l:T)(xs:List Int)(hl:IsSl l xs.length (ints xs))(i:Nat)(hi:i<1000000):ae pE 18 [l,.i .i64 (i:Int)] []=some (.i .i64 (bN xs i),[]):=by
 rw[an aj9 (by simp[c18])]
 by_cases h:xs.length=0
 ·have r:((xs.length:Nat):Int)=0:=zO
  have ha:bN xs i=(i:Int)%65536:=by unfold bN;rw[if_pos h]
  simp only[qA,seval,c18,hl.lenI,r,ha]
 ·have r: ¬((xs.length:Nat):Int)=0:=zO
  have D:i%xs.length<xs.length:=Nat.mod_lt _ zO
  have ha:bN xs i=xs[i%xs.length]%65536+((i/xs.length:Nat):Int):=by
   unfold bN;rw[if_neg h];simp[List.getD_eq_getElem?_getD,D]
  have e1:((i:Int)).tmod (xs.length:Int)=((i%xs.length:Nat):Int):=by rw[eS (Int.natCast_nonneg i)];exact(Int.natCast_emod i xs.length).symm
  have e2:((i:Int)).tdiv (xs.length:Int)=((i/xs.length:Nat):Int):=by rw[Int.tdiv_eq_ediv_of_nonneg (Int.natCast_nonneg i)];exact(Int.natCast_ediv i xs.length).symm
  have JS:i/xs.length≤i:=Nat.div_le_self _ _
  have F:0≤((i/xs.length:Nat):Int):=Int.natCast_nonneg _
  have H:((i/xs.length:Nat):Int)≤(i:Int):=Int.ofNat_le.2 JS
  have C3:(i:Int)<1000000:=zO
  generalize ((i/xs.length:Nat):Int)=q at*
  have I:wr .i64 q=q:=bo zO
  have J:wr .i64 (xs[i%xs.length]%65536+q)=xs[i%xs.length]%65536+q:=bo zO
  have K: ∀kk,dV l (.i kk ((i%xs.length:Nat):Int)) 1=some (.vp (T.i .i64 xs[i%xs.length]::(ints xs).drop (i%xs.length+1))):=fun kk=>by rw[hl.ia (sz:=1) (by rw[cD];omega) D,Nat.mul_one,iw xs _ D]
  simp only[qA,seval,c18,hl.lenI,r,e1,e2,K,I,J,ha]
def lp(r:List (List Nat)):List Nat:=r.flatMap (· ++ [10])
def Cz(tx:List Nat):Nat→List (List Nat)×Nat
 |0=>([],0)
 |k+1=>if tx.getD k 0=10 then((Cz tx k).1++ [(tx.drop (Cz tx k).2).take (k-(Cz tx k).2)],k+1)else Cz tx k
theorem aax(tx:List Nat): ∀k,(Cz tx k).1.length≤k∧(Cz tx k).2≤k
 |0=>⟨Nat.le_refl _,Nat.le_refl _⟩
 |k+1=>by
  have:=aax tx k
  rw[Cz]
  split
  ·simp;omega
  ·omega
theorem Kh(a l b:List Nat)(L:List (List Nat))(hl:10∉l)(h:Cz (a++l++b) a.length=(L,a.length)): ∀j,j≤l.length→Cz (a++l++b) (a.length+j)=(L,a.length)
 |0,_=>h
 |j+1,r=>by
  have ih:=Kh a l b L hl h j zO
  rw[←Nat.add_assoc,Cz,ih]
  have e:(a++l++b).getD (a.length+j) 0=l[j]:=by
   rw[List.getD_eq_getElem?_getD,List.append_assoc,List.getElem?_append_right zO,Nat.add_sub_cancel_left,List.getElem?_append_left zO,List.getElem?_eq_getElem zO]
   rfl
  rw[if_neg]
  rw[e]
  exact fun h=>hl (h▸List.getElem_mem _)
theorem Pq: ∀(r:List (List Nat)) (a:List Nat) (L:List (List Nat)) (tx:List Nat),(∀l∈r,10∉l)→tx=a++lp r→Cz tx a.length=(L,a.length)→Cz tx tx.length=(L++r,tx.length)
 | [],a,L,tx,_,e,h=>by
   have:tx=a:=by rw[e];simp[lp]
   rw[this]at h ⊢
   simpa using h
 |l::r,a,L,tx,hl,e,h=>by
  have e2:tx=a++l++([10]++lp r):=by rw[e];simp[lp]
  have h2:=h
  rw[e2]at h2
  have h3:=Kh a l _ L (hl l List.mem_cons_self) h2 l.length (Nat.le_refl _)
  rw[←e2]at h3
  have h4:Cz tx (a++l++ [10]).length=(L++ [l],(a++l++ [10]).length):=by
   rw[List.length_append,List.length_append,List.length_singleton,Cz,h3]
   have e3:tx.getD (a.length+l.length) 0=10:=by
    rw[e2,List.getD_eq_getElem?_getD,List.getElem?_append_right xv]
    simp
   rw[if_pos e3]
   have e4:(tx.drop a.length).take (a.length+l.length-a.length)=l:=by
    rw[e2,List.append_assoc,List.drop_left,Nat.add_sub_cancel_left,List.take_left]
   rw[e4]
  have h5:=Pq r (a++l++ [10]) (L++ [l]) tx (fun x hx=>hl x (List.mem_cons_of_mem _ hx)) (by rw[e2];simp) h4
  rw[h5,List.append_assoc]
  rfl
def aay(tx:List Nat):Prop:=tx.length≤20000∧ ∀c∈tx,c=10∨(32≤c∧c≤126)
theorem Pr{c:Nat}:(do let a ←(some c:Option Nat);pure (a:Int))=some (c:Int):=rfl
section
variable(tx:List Nat)(hx:aay tx)
include hx
theorem aHp(fr:Fr)(lh:aB ah)(sh:List ah)(h0:aa fr 0= .s tx)(h4:aa fr 4= .i .i64 0):
  Lp pE 66 wy fr lh sh (.ext 0) fun f q s=>s=sh∧q=lh:=by
 obtain⟨C4,F⟩:=hx
 refine bV aaz (fun k f q s=>aa f 4= .i .i64 (k:Int)∧s=sh∧q=lh) tx.length ⟨h4,rfl,rfl⟩ ?_ ?_
 ·rintro k f _ _ hk r ⟨D,rfl,rfl⟩
  have J:(k:Int)<tx.length:=zO
  have K:=aI (k:=k) zO
  have hc:=F tx[k] (List.getElem_mem hk)
  have O:tx[k]? =some tx[k]:=List.getElem?_eq_getElem hk
  have U:(0:Int)≤(k:Int):=zO
  generalize tx[k]=c at*
  by_cases H:c=10
  ·subst H
   simp(maxDischargeDepth:=6) only[qA,seval,gd,wy,r,h0,D,J,O,Pr,K]
  ·have hi: ¬((c:Nat):Int)=10:=zO
   have V: ¬((c:Nat):Int)<32:=zO
   have I: ¬((c:Nat):Int)>126:=zO
   simp(maxDischargeDepth:=6) only[qA,seval,gd,wy,r,h0,D,J,O,Pr,K,hi,V,I]
 ·rintro f _ _ r ⟨D,rfl,rfl⟩
  simp only[qA,seval,gd,wy,r,h0,D,Int.lt_irrefl]
theorem aHr(fr:Fr)(lh:aB ah)(sh:List ah)(h0:aa fr 0= .s tx)(h5:aa fr 5= .nilsl)(h6:aa fr 6= .i .i64 0)(Y:aa fr 7= .i .i64 0):
  Lp pE 66 wx fr lh sh (.ext 2) fun f q s=>s=sh∧bt q (aa f 5) 49 1 (Cz tx tx.length).1.length (strs (Cz tx tx.length).1)∧aa f 6= .i .i64 ((Cz tx tx.length).2:Int):=by
 obtain⟨C4,Z⟩:=hx
 refine bV aaA (fun k f q s=>aa f 7= .i .i64 (k:Int)∧s=sh∧bt q (aa f 5) 49 1 (Cz tx k).1.length (strs (Cz tx k).1)∧aa f 6= .i .i64 ((Cz tx k).2:Int)) tx.length ⟨Y,rfl,by rw[h5];exact bt.nil,h6⟩ ?_ ?_
 ·rintro k f q _ hk H ⟨I,rfl,D,J⟩
  have V:(k:Int)<tx.length:=zO
  have W:=aI (k:=k) zO
  have K:tx[k]? =some tx[k]:=List.getElem?_eq_getElem hk
  have hD:tx.getD k 0=tx[k]:=by rw[List.getD_eq_getElem?_getD,K];rfl
  have h0k:(0:Int)≤(k:Int):=zO
  obtain⟨b1,b2⟩:=aax tx k
  have vv:((Cz tx k).2≤k∧k≤tx.length):=⟨b2,by omega⟩
  rw[Cz,hD]
  generalize Cz tx k=p at*
  obtain⟨L,r⟩:=p
  dsimp only at*
  have O:=fun(l:List Nat) (aZ:aB ah) (U:List ah) (e:ab aZ 49=ab q 49)=>fk (sh:=U) (D.congr e) [.s l] rfl (bytes:=16) (by unfold roomy;omega) true
  have X:=D.notS
  generalize Sv:aa f 5=v5 at D O X
  generalize tx[k]=c at*
  by_cases F:c=10
  ·subst F
   simp(maxDischargeDepth:=6) only[qA,seval,gd,wx,H,h0,I,J,Sv,V,K,Pr,W,O,X,repl,tq,vv]
   have h:=fun U=>(O ((tx.drop r).take (k-r)) q U rfl).2.1
   rw[show strs (L++ [(tx.drop r).take (k-r)])=strs L++ [.s ((tx.drop r).take (k-r))]by simp[strs],List.length_append,List.length_singleton]
   exact h _
  ·have hi: ¬((c:Nat):Int)=10:=zO
   simp(maxDischargeDepth:=6) only[qA,seval,gd,wx,H,h0,I,J,Sv,V,K,Pr,W,hi,F]
   exact D
 ·rintro f q _ H ⟨I,rfl,D,J⟩
  simp only[qA,seval,gd,wx,H,h0,I,Int.lt_irrefl]
  exact⟨D,J⟩
end
theorem af7(r:List (List Nat))(h: ∀l∈r,l.length≤100∧ ∀c∈l,32≤c∧c≤126)(hl:r.length≤100):aay (lp r)∧ ∀l∈r,10∉l:=by
 refine⟨⟨?_,fun c hc=> ?_⟩,fun l hl D=> ?_⟩
 ·have: ∀m:List (List Nat),(∀l∈m,l.length≤100)→(lp m).length≤m.length*101:=by
   intro m
   induction m with
   |nil=>simp[lp]
   |cons x m ih=>
    intro F
    have h1:=F x List.mem_cons_self
    have h2:=ih fun l hl=>F l (List.mem_cons_of_mem _ hl)
    have e:lp (x::m)=x++ [10]++lp m:=by simp[lp]
    rw[e,List.length_append,List.length_append,List.length_singleton,List.length_cons]
    omega
  have:=this r fun l hl=>(h l hl).1
  omega
 ·obtain⟨l,h1,h2⟩:=List.mem_flatMap.1 hc
  rcases List.mem_append.1 h2 with h2|h2
  ·exact .inr ((h l h1).2 c h2)
  ·exact .inl (List.mem_singleton.1 h2)
 ·have:=(h l hl).2 10 D
  omega
theorem aaB(r:List (List Nat))(hx:aay (lp r))(F: ∀l∈r,10∉l)(hl:r.length≤1000):ae pE 77 [.s (lp r)] []=some (.tup [cE r.length (strs r),.i .i64 0],[]):=by
 have e:=Pq r [] [] (lp r) F rfl rfl
 rw[List.nil_append]at e
 have h2:=fun fr lh sh=>aHp (lp r) hx fr lh sh
 have h1:=fun fr lh sh=>aHr (lp r) hx fr lh sh
 rw[e]at h1
 have J:=hx.1
 have hb: ¬((lp r).length:Int)>20000:=zO
 have O: ¬((r.length:Nat):Int)>1000:=zO
 generalize lp r=tx at*
 rw[an auG (by simp[c77])]
 simp(maxDischargeDepth:=6) only[qA,seval,c77,hb]
 generalize H:DC pE 66 (.loop wy) _=D
 obtain⟨Z,l2,s2,rfl,⟨rfl,rfl⟩,K⟩:=sZ aaz H (h2 _ _ _ wL wL)
 simp(maxDischargeDepth:=6) only[qA,seval]
 generalize H:DC pE 66 (.loop wx) _=D
 obtain⟨U,l3,s3,rfl,⟨rfl,I,V⟩,CX⟩:=sZ aaA H (h1 _ _ _ (by simp only[qA,seval,K]) wL wL wL)
 have W:=fun m keep=>I.fzW (m:=m) (sh:=([]:List ah)) (keep:=keep)
 have X:=I.lenI
 have Y:aa U 0= .s tx:=by rw[CX 0 yv];simp only[qA,seval,K]
 have q3:=I.notS
 simp(maxDischargeDepth:=6) only[qA,yG,seval,Y,V,X,O,Int.lt_irrefl,W]
def pR(a:Nat→Int):Nat→Nat→Nat→Int→Nat×Int
 |0,_,x,r=>(x,r)
 |m+1,i,x,r=>pR a m (i+1) (Cx (a (2+i)) x) (MI (a (2+i)) r)
theorem Ki(a:Nat→Int): ∀(m i x:Nat) (r:Int),tT a (m+1) i x r=tT a m i x r++ [anI (i+m) (a (2+(i+m))) (pR a m i x r).1 (pR a m i x r).2]
 |0,i,x,r=>by simp[tT,pR]
 |m+1,i,x,r=>by
  rw[tT,Ki a m (i+1),tT,pR,List.cons_append,show i+1+m=i+(m+1)by omega]
theorem Kj(a:Nat→Int): ∀(m i x:Nat) (r:Int),pR a (m+1) i x r=(Cx (a (2+(i+m))) (pR a m i x r).1,MI (a (2+(i+m))) (pR a m i x r).2)
 |0,i,x,r=>rfl
 |m+1,i,x,r=>by
  rw[pR,Kj a m (i+1),pR,show i+1+m=i+(m+1)by omega]
theorem Ps(a:Nat→Int): ∀(m i x:Nat) (r:Int),x≤2→1440000≤r→r≤1441425+915*i→(pR a m i x r).1≤2∧1440000≤(pR a m i x r).2∧(pR a m i x r).2≤1441425+915*(i+m)
 |0,i,x,r,h1,h2,h3=>by rw[pR];exact⟨h1,h2,by omega⟩
 |m+1,i,x,r,h1,h2,h3=>by
  obtain⟨H,I⟩:=Kf (a (2+i)/16%8).toNat
  have D:G2 (a (2+i)) r=r+Ke (a (2+i)/16%8).toNat:=rfl
  have J:arB (a (2+i)) r=G2 (a (2+i)) r+60+15*(a (2+i)/128%6):=rfl
  have DN:MI (a (2+i)) r=G2 (a (2+i)) r+20∨MI (a (2+i)) r=arB (a (2+i)) r:=by unfold MI;split <;> simp
  rw[pR]
  obtain⟨K,F,O⟩:=aaw (a (2+i)) x h1
  have:=Ps a m (i+1) (Cx (a (2+i)) x) (MI (a (2+i)) r) F zO (by push_cast;omega)
  push_cast at this
  refine⟨this.1,this.2.1,by push_cast;omega⟩
theorem Kk(a:Int)(k:IntKind):Ev.bin .shr (.i .i64 a) (.i k 7)=some (.i .i64 (a/128)):=fE (b:=7) zO
theorem yw(a:Int)(k:IntKind):Ev.bin .shr (.i .i64 a) (.i k 10)=some (.i .i64 (a/1024)):=fE (b:=10) zO
def G3:T:= .sl [.s [117,116,99],.i .i64 0,.nilsl,.s [111,115,108,111],.i .i64 60,.sl [.i .i64 1441500,.i .i64 120,.i .i64 1444000,.i .i64 60] 2 true,.s [121,111,114,107],.i .i64 (-300),.sl [.i .i64 1442900,.i .i64 (-240)] 1 true] 3 true
def G5:T:= .sl [.s [65,65,65],.s [117,116,99],.s [66,66,66],.s [111,115,108,111],.s [67,67,67],.s [121,111,114,107]] 3 true
def gpT:T:= .sl [.i .i64 30,.i .i64 45,.i .i64 45,.i .i64 60,.i .i64 90,.i .i64 150,.i .i64 600,.i .i64 780] 8 true
def tyT:T:= .sl [.s [97,51,50,48],.s [98,55,51,55],.s [101,49,57,48]] 3 true
def cdT:T:= .sl [.s [65,65,65],.s [66,66,66],.s [67,67,67]] 3 true
theorem azB(r:Int)(h0:0≤r)(D:r<8): ∃q,∀kk,dV gpT (.i kk r) 1=some (.vp (.i .i64 (Ke r.toNat)::q)):=by
 have:r=0∨r=1∨r=2∨r=3∨r=4∨r=5∨r=6∨r=7:=zO
 rcases this with rfl|rfl|rfl|rfl|rfl|rfl|rfl|rfl <;> exact⟨_,fun _=>rfl⟩
theorem azC(r:Int)(h0:0≤r)(D:r<3): ∃q,∀kk,dV tyT (.i kk r) 1=some (.vp (.s (anH r.toNat)::q)):=by
 have:r=0∨r=1∨r=2:=zO
 rcases this with rfl|rfl|rfl <;> exact⟨_,fun _=>rfl⟩
theorem aaC(x:Nat)(h:x≤2): ∃q,∀kk,dV cdT (.i kk (x:Int)) 1=some (.vp (.s (Dz x)::q)):=by
 have:x=0∨x=1∨x=2:=zO
 rcases this with rfl|rfl|rfl <;> exact⟨_,fun _=>rfl⟩
theorem anV:ae pE 46 [] []=some (cdT,[]):=by
 rw[an aki (by simp[c46])]
 unfold cdT
 simp(maxDischargeDepth:=6) only[qA,seval,c46,repl]
theorem aHu(k:Nat)(h:k<256):ac8 (.sl [.i .u8 (k:Int)] 1 true)=some (.s [k]):=by
 show(if k<256 then some (T.s [k])else none)=_
 rw[if_pos h]
theorem ttG{HP:aB ah}{r zT aT:T}{D:List T}{F:List Fl}{y:Fl}{i g:Nat}(h:bt HP r 91 9 (i+1) (F.flatMap tD++D))(e:tD y=D): ∃v,bt HP v 91 9 (i+1) ((F++ [y]).flatMap tD)∧(⟨g,.cells [zT,aT,r] 0 true⟩:ah)=⟨g,.cells [zT,aT,v] 0 true⟩:=by
 refine⟨r, ?_,rfl⟩
 rw[List.flatMap_append,List.flatMap_cons,List.flatMap_nil,List.append_nil,e]
 exact h
theorem Kl(i:Nat)(n:Int)(x:Nat)(r:Int){A B:Nat}(ha:Su n x=A)(hb:Cx n x=B):tD (anI i n x r)= [.s [70,48+i],.s (Dz A),.s (Dz B),.i .i64 (G2 n r),.i .i64 (arB n r),.s (anH (n/1024%3).toNat),.i .i64 1,.i .i64 1,.i .i64 2]:=by
 subst ha hb
 rfl
section
variable(xs:List Int)(la:T)(hl:IsSl la xs.length (ints xs))
include hl
theorem ttl(V:Int)(EI:1440000≤V)(Aj:V≤1441425)(zT aT:T)(g:Nat)(fr:Fr)(lh:aB ah)(sh:List ah)(h0:aa fr 0=la)(h3:aa fr 3= .ptr .L 3 g 0)(h4:aa fr 4= .i .i64 0)(h5:aa fr 5= .i .i64 V)(h6:aa fr 6=gpT)(h7:aa fr 7=tyT)(h8:aa fr 8= .i .i64 0)(W:ab lh 3=⟨g,.cells [zT,aT,.nilsl] 0 true⟩):
  Lp pE 102 kV fr lh sh (.ext 0) fun f l s=>s=sh∧ab l 2=ab lh 2∧ ∃v,bt l v 91 9 (EH (bN xs)) ((tT (bN xs) (EH (bN xs)) 0 0 V).flatMap tD)∧ab l 3=⟨g,.cells [zT,aT,v] 0 true⟩:=by
 refine bV aaD (fun i f l s=>aa f 8= .i .i64 (i:Int)∧aa f 4= .i .i64 ((pR (bN xs) i 0 0 V).1:Int)∧aa f 5= .i .i64 (pR (bN xs) i 0 0 V).2∧s=sh∧ab l 2=ab lh 2∧ ∃v,bt l v 91 9 i ((tT (bN xs) i 0 0 V).flatMap tD)∧ab l 3=⟨g,.cells [zT,aT,v] 0 true⟩) (EH (bN xs)) ⟨h8,h4,h5,rfl,rfl,.nilsl,bt.nil,W⟩ ?_ ?_
 ·rintro i f l _ hi Y ⟨g8,g4,g5,rfl,Z,v,hO,W⟩
  have hn:=Cy (bN xs)
  have a1:=jP la xs hl 1 zO
  have dO:=jP la xs hl (2+i) zO
  have n1:=rv xs 1
  have n2:=rv xs (2+i)
  have D:(i:Int)<2+bN xs 1%6:=by unfold EH at hi;omega
  have t1:(bN xs 1).tmod 6=bN xs 1%6:=eS n1
  have w1:wr .i64 (2+bN xs 1%6)=2+bN xs 1%6:=bo zO
  have w2:wr .i64 (2+(i:Int))=((2+i:Nat):Int):=by rw[bo zO];omega
  have hw:=aI (k:=i) zO
  have gn:=Kj (bN xs) i 0 0 V
  have qU:=Ki (bN xs) i 0 0 V
  have hrg:=Ps (bN xs) i 0 0 V zO zO zO
  rw[Nat.zero_add]at gn qU
  obtain⟨r1,r2,r3⟩:=hrg
  rw[gn,qU]
  generalize (pR (bN xs) i 0 0 V).1=x at*
  generalize (pR (bN xs) i 0 0 V).2=ck at*
  generalize tT (bN xs) i 0 0 V=fs at*
  have F:ae pE 18 [la,.i .i64 1] []=some (.i .i64 (bN xs 1),[]):=a1
  generalize bN xs 1=m1 at*
  generalize bN xs (2+i)=n at*
  have t7:n.tmod 7=n%7:=eS n2
  have t11:n.tmod 11=n%11:=eS n2
  have t5:n.tmod 5=n%5:=eS n2
  have t2:(n/8).tmod 2=n/8%2:=eS zO
  have t8:(n/16).tmod 8=n/16%8:=eS zO
  have t6:(n/128).tmod 6=n/128%6:=eS zO
  have t3:(n/1024).tmod 3=n/1024%3:=eS zO
  obtain⟨q1,e1⟩:=azB (n/16%8) zO zO
  obtain⟨q2,e2⟩:=azC (n/1024%3) zO zO
  obtain⟨g1,g2⟩:=Kf (n/16%8).toNat
  obtain⟨u1,u2,u3⟩:=aaw n x r1
  obtain⟨q3,e3⟩:=aaC (Su n x) u3
  obtain⟨q4,e4⟩:=aaC (Cx n x) u2
  have DN:=anV
  have hdp:G2 n ck=ck+Ke (n/16%8).toNat:=rfl
  have fM:arB n ck=G2 n ck+60+15*(n/128%6):=rfl
  have hz:=hl.froz
  have hi6:i≤6:=zO
  have J:wr .i64 (48+(i:Int))=((48+i:Nat):Int):=by rw[bo zO];omega
  have w8:wr .u8 ((48+i:Nat):Int)=((48+i:Nat):Int):=by
   have:i=0∨i=1∨i=2∨i=3∨i=4∨i=5∨i=6:=zO
   rcases this with rfl|rfl|rfl|rfl|rfl|rfl|rfl <;> rfl
  have nN:=aHu (48+i) zO
  have w9:wr .i64 (ck+Ke (n/16%8).toNat)=G2 n ck:=by rw[bo zO];rfl
  have K:wr .i64 (G2 n ck+60)=G2 n ck+60:=bo zO
  have O:wr .i64 (15*(n/128%6))=15*(n/128%6):=bo zO
  have U:wr .i64 (G2 n ck+60+15*(n/128%6))=arB n ck:=by rw[bo zO];rfl
  have w13:wr .i64 (G2 n ck+20)=G2 n ck+20:=bo zO
  have w14:wr .i64 (1+n/8%2)=1+n/8%2:=bo zO
  have I:=fun(ps:List T) (rW:ps.length=9) (aZ:aB ah) (aY:List ah) (e:ab aZ 91=ab l 91)=>fk (bytes:=104) (sh:=aY) (hO.congr e) ps rW (by unfold roomy;omega) true
  have ee:=fun ps rW aZ aY e=>(I ps rW aZ aY e).2.1.cells
  have KJ:=fun ps rW aZ aY e=>(I ps rW aZ aY e).2.1.noTup
  have qe:=hO.notS
  obtain⟨G,hG⟩: ∃G,(ab l 12).g+1=G:=⟨_,rfl⟩
  have e0:dV cdT (.i .i64 0) 1=some (.vp [.s (Dz 0),.s (Dz 1),.s (Dz 2)]):=rfl
  have e8: ∃q,dV cdT (.i .i64 (1+n/8%2)) 1=some (.vp (.s (Dz (1+(n/8%2).toNat))::q)):=by
   obtain⟨q,h⟩:=aaC (1+(n/8%2).toNat) zO
   refine⟨q, ?_⟩
   have:(1+n/8%2:Int)=((1+(n/8%2).toNat:Nat):Int):=zO
   rw[this]
   exact h .i64
  obtain⟨q8,e8⟩:=e8
  generalize cdT=cdT at*
  by_cases hA:n%7=6
  ·have ha:Su n x=0:=if_pos hA
   have GJ:Cx n x=1+(n/8%2).toNat:=by unfold Cx;rw[if_pos ha]
   have r:(1+n/8%2:Int)=((Cx n x:Nat):Int):=by rw[GJ];omega
   by_cases H:n%5=4
   ·have hc:MI n ck=G2 n ck+20:=if_pos H
    simp(maxDischargeDepth:=6) only[qA,seval,gd,repl,bp,aJ,kV,Y,h0,h3,h6,h7,g8,g5,W,F,dO,t1,w1,w2,D,hw,hz,t7,t5,t2,t8,t6,t3,e1,e2,e0,e8,DN,J,w8,nN,w9,K,O,U,w13,w14,I,ee,KJ,qe,hG,hA,H,Kk,yw,nU,HV,HW,yi,kN]
    exact⟨congrArg (T.i .i64) r,congrArg (T.i .i64) (hc.symm),Z,ttG ((fg yv).mpr (I _ rfl _ _ wL).2.1) (Kl i n x ck ha GJ)⟩
   ·have hc:MI n ck=arB n ck:=if_neg H
    simp(maxDischargeDepth:=6) only[qA,seval,gd,repl,bp,aJ,kV,Y,h0,h3,h6,h7,g8,g5,W,F,dO,t1,w1,w2,D,hw,hz,t7,t5,t2,t8,t6,t3,e1,e2,e0,e8,DN,J,w8,nN,w9,K,O,U,w14,I,ee,KJ,qe,hG,hA,H,Kk,yw,nU,HV,HW,yi,kN]
    exact⟨congrArg (T.i .i64) r,congrArg (T.i .i64) (hc.symm),Z,ttG ((fg yv).mpr (I _ rfl _ _ wL).2.1) (Kl i n x ck ha GJ)⟩
  ·have X:Su n x=x:=if_neg hA
   by_cases hx:x=0
   ·subst hx
    have ha:Su n 0=0:=X
    have GJ:Cx n 0=1+(n/8%2).toNat:=by unfold Cx;rw[if_pos ha]
    have r:(1+n/8%2:Int)=((Cx n 0:Nat):Int):=by rw[GJ];omega
    have g4:aa f 4= .i .i64 0:=g4
    by_cases H:n%5=4
    ·have hc:MI n ck=G2 n ck+20:=if_pos H
     simp(maxDischargeDepth:=6) only[qA,seval,gd,repl,bp,aJ,kV,Y,h0,h3,h6,h7,g8,g4,g5,W,F,dO,t1,w1,w2,D,hw,hz,t7,t5,t2,t8,t6,t3,e1,e2,e0,e8,DN,J,w8,nN,w9,K,O,U,w13,w14,I,ee,KJ,qe,hG,hA,H,Kk,yw,nU,HV,HW,yi,kN]
     exact⟨congrArg (T.i .i64) r,congrArg (T.i .i64) (hc.symm),Z,ttG ((fg yv).mpr (I _ rfl _ _ wL).2.1) (Kl i n 0 ck ha GJ)⟩
    ·have hc:MI n ck=arB n ck:=if_neg H
     simp(maxDischargeDepth:=6) only[qA,seval,gd,repl,bp,aJ,kV,Y,h0,h3,h6,h7,g8,g4,g5,W,F,dO,t1,w1,w2,D,hw,hz,t7,t5,t2,t8,t6,t3,e1,e2,e0,e8,DN,J,w8,nN,w9,K,O,U,w14,I,ee,KJ,qe,hG,hA,H,Kk,yw,nU,HV,HW,yi,kN]
     exact⟨congrArg (T.i .i64) r,congrArg (T.i .i64) (hc.symm),Z,ttG ((fg yv).mpr (I _ rfl _ _ wL).2.1) (Kl i n 0 ck ha GJ)⟩
   ·have ha:Su n x=x:=X
    have CV: ¬((x:Nat):Int)=0:=zO
    rw[X]at e3
    by_cases hE:n%11=10
    ·have GJ:Cx n x=3-x:=by unfold Cx;rw[X,if_neg hx,if_pos hE]
     have w15:wr .i64 (3-(x:Int))=3-(x:Int):=bo zO
     have e6: ∃q,dV cdT (.i .i64 (3-(x:Int))) 1=some (.vp (.s (Dz (3-x))::q)):=⟨q4,by
      have:(3-(x:Int))=((Cx n x:Nat):Int):=by rw[GJ];omega
      rw[this,←GJ];exact e4 .i64⟩
     obtain⟨q6,e6⟩:=e6
     have r:(3-(x:Int))=((Cx n x:Nat):Int):=by rw[GJ];omega
     by_cases H:n%5=4
     ·have hc:MI n ck=G2 n ck+20:=if_pos H
      simp(maxDischargeDepth:=6) only[qA,seval,gd,repl,bp,aJ,kV,Y,h0,h3,h6,h7,g8,g4,g5,W,F,dO,t1,w1,w2,D,hw,hz,t7,t11,t5,t8,t6,t3,e1,e2,DN,J,w8,nN,w9,K,O,U,w13,I,ee,KJ,qe,hG,hA,H,Kk,yw,nU,HV,HW,yi,kN,CV,hE,w15,e3,e6]
      exact⟨congrArg (T.i .i64) r,congrArg (T.i .i64) (hc.symm),Z,ttG ((fg yv).mpr (I _ rfl _ _ wL).2.1) (Kl i n x ck ha GJ)⟩
     ·have hc:MI n ck=arB n ck:=if_neg H
      simp(maxDischargeDepth:=6) only[qA,seval,gd,repl,bp,aJ,kV,Y,h0,h3,h6,h7,g8,g4,g5,W,F,dO,t1,w1,w2,D,hw,hz,t7,t11,t5,t8,t6,t3,e1,e2,DN,J,w8,nN,w9,K,O,U,I,ee,KJ,qe,hG,hA,H,Kk,yw,nU,HV,HW,yi,kN,CV,hE,w15,e3,e6]
      exact⟨congrArg (T.i .i64) r,congrArg (T.i .i64) (hc.symm),Z,ttG ((fg yv).mpr (I _ rfl _ _ wL).2.1) (Kl i n x ck ha GJ)⟩
    ·have GJ:Cx n x=0:=by unfold Cx;rw[X,if_neg hx,if_neg hE]
     have r:(0:Int)=((Cx n x:Nat):Int):=by rw[GJ];rfl
     by_cases H:n%5=4
     ·have hc:MI n ck=G2 n ck+20:=if_pos H
      simp(maxDischargeDepth:=6) only[qA,seval,gd,repl,bp,aJ,kV,Y,h0,h3,h6,h7,g8,g4,g5,W,F,dO,t1,w1,w2,D,hw,hz,t7,t11,t5,t8,t6,t3,e1,e2,e0,DN,J,w8,nN,w9,K,O,U,w13,I,ee,KJ,qe,hG,hA,H,Kk,yw,nU,HV,HW,yi,kN,CV,hE,e3]
      exact⟨congrArg (T.i .i64) r,congrArg (T.i .i64) (hc.symm),Z,ttG ((fg yv).mpr (I _ rfl _ _ wL).2.1) (Kl i n x ck ha GJ)⟩
     ·have hc:MI n ck=arB n ck:=if_neg H
      simp(maxDischargeDepth:=6) only[qA,seval,gd,repl,bp,aJ,kV,Y,h0,h3,h6,h7,g8,g4,g5,W,F,dO,t1,w1,w2,D,hw,hz,t7,t11,t5,t8,t6,t3,e1,e2,e0,DN,J,w8,nN,w9,K,O,U,I,ee,KJ,qe,hG,hA,H,Kk,yw,nU,HV,HW,yi,kN,CV,hE,e3]
      exact⟨congrArg (T.i .i64) r,congrArg (T.i .i64) (hc.symm),Z,ttG ((fg yv).mpr (I _ rfl _ _ wL).2.1) (Kl i n x ck ha GJ)⟩
 ·rintro f l _ Y ⟨g8,g4,g5,rfl,Z,v,hO,W⟩
  have hn:=Cy (bN xs)
  have a1:=jP la xs hl 1 zO
  have n1:=rv xs 1
  have t1:(bN xs 1).tmod 6=bN xs 1%6:=eS n1
  have w1:wr .i64 (2+bN xs 1%6)=2+bN xs 1%6:=bo zO
  have D: ¬((EH (bN xs):Nat):Int)<2+bN xs 1%6:=by unfold EH;omega
  have F:ae pE 18 [la,.i .i64 1] []=some (.i .i64 (bN xs 1),[]):=a1
  have hz:=hl.froz
  simp(maxDischargeDepth:=6) only[qA,seval,gd,kV,Y,h0,g8,F,t1,w1,D,hz,nU]
  exact⟨Z,v,hO,W⟩
omit hl in
theorem anW:ae pE 27 [] []=some (G3,[])∧ae pE 28 [] []=some (G5,[]):=by
 refine⟨?_, ?_⟩
 ·rw[an at8 (by simp[c27])]
  unfold G3
  simp(maxDischargeDepth:=6) only[qA,seval,c27,repl]
 ·rw[an at9 (by simp[c28])]
  unfold G5
  simp(maxDischargeDepth:=6) only[qA,seval,c28,repl]
theorem anX: ∃v,ae pE 19 [la] []=some (.agg [G3,G5,v],[])∧v=cE (EH (bN xs)) ((ttB (bN xs)).fl.flatMap tD):=by
 refine⟨_, ?_,rfl⟩
 have h0:ae pE 18 [la,.i .i64 0] []=some (.i .i64 (bN xs 0),[]):=jP la xs hl 0 zO
 have W:=rv xs 0
 have K:=fun fr lh sh h0 h3 h4 h5 h6 X Y F=>ttl xs la hl (1440000+15*(bN xs 0%96)) zO zO G3 G5 1 fr lh sh h0 h3 h4 h5 h6 X Y F
 have Z:(bN xs 0).tmod 96=bN xs 0%96:=eS W
 have w0:wr .i64 (15*(bN xs 0%96))=15*(bN xs 0%96):=bo zO
 have w1:wr .i64 (1440000+15*(bN xs 0%96))=1440000+15*(bN xs 0%96):=bo zO
 obtain⟨z1,z2⟩:=anW
 have hz:=hl.froz
 have k1:froz1 G3=true:=rfl
 have k2:froz1 G5=true:=rfl
 have k3:froz G3=true:=rfl
 have k4:froz G5=true:=rfl
 have k5:cellsOf G3= [G3]:=rfl
 have k6:cellsOf G5= [G5]:=rfl
 have k7:noTup G3=true:=rfl
 have k8:noTup G5=true:=rfl
 rw[an at2 (by simp[c19])]
 have r:gpT= .sl [.i .i64 30,.i .i64 45,.i .i64 45,.i .i64 60,.i .i64 90,.i .i64 150,.i .i64 600,.i .i64 780] 8 true:=rfl
 have O:tyT= .sl [.s [97,51,50,48],.s [98,55,51,55],.s [101,49,57,48]] 3 true:=rfl
 unfold ttB
 simp only
 generalize G3=zT at*
 generalize G5=aT at*
 simp(maxDischargeDepth:=6) only[qA,seval,c19,repl,z1,z2,h0,Z,w0,w1,hz,k5,k6,k7,k8,nU,aCW,aCX,←r,←O]
 generalize hD:DC pE 102 (.loop kV) _=D
 obtain⟨U,V,s2,rfl,⟨rfl,o2,v,H,F⟩,I⟩:=sZ aaD hD (K _ _ _ wL wL wL wL (by simp only[qA,seval,r]) (by simp only[qA,seval,O]) wL wL)
 have q2:aa U 2= .ptr .L 2 1 0:=by rw[I 2 yv];simp only[qA,seval]
 have q3:aa U 3= .ptr .L 3 1 0:=by rw[I 3 yv];simp only[qA,seval]
 have J:ab V 2=⟨1,.cells [.nilsl,.nilsl,.nilsl] 0 true⟩:=by rw[o2];simp only[qA,seval]
 have ez:=fun e m sh keep=>bt.fzW (m:=m) (sh:=sh) (keep:=keep) (H.congr (bK V e (show(91:Nat)≠2 by decide)))
 have ee:=H.cells
 have KJ:=H.noTup
 clear I K
 simp(maxDischargeDepth:=6) only[qA,yG,seval,q2,q3,J,F,ez,k1,k2]
end
def atR(f:Nat→Int)(n:Nat):List Int:=(List.range n).map f
theorem Pt(f:Nat→Int)(n:Nat):(atR f n).length=n:=by simp[atR]
theorem aaE(o:Nat→Int)(k:Nat):HK o (k+1)=if 0<o k%8 then HK o k++ [k]else HK o k:=by
 unfold HK
 rw[List.range_succ,List.filter_append]
 by_cases h:0<o k%8 <;> simp[h]
theorem af8(o:Nat→Int)(n:Nat):(HK o n).length≤n:=by unfold HK;exact Nat.le_trans (List.length_filter_le _ _) xv
section
variable(xs:List Int)(l:T)(hl:IsSl l xs.length (ints xs))(zT aT fT:T)(N:Nat)(fc:List T)(hf:IsSl fT N fc)(hN:N≤1000)
include hl hf hN
theorem aHw(fr:Fr)(lh:aB ah)(sh:List ah)(h1:aa fr 1=l)(h2:aa fr 2= .ptr .L 2 1 0)(h5:aa fr 5= .nilsl)(h6:aa fr 6= .i .i64 0)(o2:ab lh 2=⟨1,.cells [zT,aT,fT] 0 true⟩):
  Lp pE 24 wh fr lh sh (.ext 0) fun f q s=>s=sh∧bt q (aa f 5) 22 1 (HK (bN xs) N).length (ints ((HK (bN xs) N).map Int.ofNat))∧ab q 2=⟨1,.cells [zT,aT,fT] 0 true⟩:=by
 have J:=hf.lenI
 refine bV aaF (fun k f q s=>aa f 6= .i .i64 (k:Int)∧s=sh∧bt q (aa f 5) 22 1 (HK (bN xs) k).length (ints ((HK (bN xs) k).map Int.ofNat))∧ab q 2=⟨1,.cells [zT,aT,fT] 0 true⟩) N ⟨h6,rfl,by rw[h5];exact bt.nil,o2⟩ ?_ ?_
 ·rintro k f q _ hk F ⟨H,rfl,D,HG⟩
  have U:(k:Int)<N:=zO
  have V:=aI (k:=k) zO
  have e1:=jP l xs hl k zO
  have I:=HG
  have W:=hl.froz
  have X:=af8 (bN xs) k
  have K:=rv xs k
  have O:=fun(aZ:aB ah) (aY:List ah) (e:ab aZ 22=ab q 22)=>fk (sh:=aY) (D.congr e) [.i .i64 (k:Int)] rfl (bytes:=8) (by unfold roomy;omega) true
  have Y:=D.notS
  have Z:(bN xs k).tmod 8=bN xs k%8:=eS K
  rw[aaE]
  generalize HK (bN xs) k=r at*
  generalize Sv:aa f 5=v5 at D O Y
  by_cases hb:0<bN xs k%8
  ·simp(maxDischargeDepth:=6) only[qA,seval,gd,wh,F,h1,h2,H,I,J,U,V,e1,Z,hb,nU,W,Sv,O,Y,repl]
   obtain⟨_,k1,k2⟩:=O q _ rfl
   rw[show ints ((r++ [k]).map Int.ofNat)=ints (r.map Int.ofNat)++ [.i .i64 (k:Int)]by simp[ints],show(r++ [k]).length=r.length+1 by simp]
   exact by first|exact k1|exact⟨k1,(k2 2 yv).trans HG⟩
  ·simp(maxDischargeDepth:=6) only[qA,seval,gd,wh,F,h1,h2,H,I,J,U,V,e1,Z,hb,nU,W,Sv]
   exact D
 ·rintro f q _ F ⟨H,rfl,D,HG⟩
  have I:=HG
  simp only[qA,seval,gd,wh,F,h2,I,H,J,Int.lt_irrefl]
  exact D
theorem anY(r:froz1 zT=true∧froz1 aT=true∧froz1 fT=true):ae pE 22 [.agg [zT,aT,fT],l] []=some (cE (HK (bN xs) N).length (ints ((HK (bN xs) N).map Int.ofNat)),[]):=by
 have F:=fun fr lh sh=>aHw xs l hl zT aT fT N fc hf hN fr lh sh
 obtain⟨J,K,O⟩:=r
 rw[an akc (by simp[c22])]
 simp(maxDischargeDepth:=6) only[qA,seval,c22]
 generalize H:DC pE 24 (.loop wh) _=D
 obtain⟨U,V,s2,rfl,⟨rfl,I,HG⟩,W⟩:=sZ aaF H (F _ _ _ wL wL wL wL wL)
 have e:=I.fzV (sh:=([]:List ah)) (keep:=false)
 simp(maxDischargeDepth:=6) only[qA,yG,seval,e]
end
end Go.Proofs.YtcpceiclnbmgiaaGreat
