/- Walks of functions of the program and of the reference, and their plain laws, part 20. Conditions: the theorems' own. -/
import Derived.Test.YtcpceiclnbmgiaaGreatGS
import Derived.Test.YtcpceiclnbmgiaaGreatM13
import Derived.Test.YtcpceiclnbmgiaaGreatM15
import Derived.Test.YtcpceiclnbmgiaaGreatM17
import Derived.Test.YtcpceiclnbmgiaaGreatM19
import Derived.KernelRfl
set_option maxRecDepth 100000
set_option linter.unusedSimpArgs false
set_option linter.unusedVariables false
set_option maxHeartbeats 16000000
namespace Go.Ev
open Go
section
variable{E:Env}{call:kg}{n:Nat}{fr:Fr}{lh:aB ah}{sh:List ah}{os:List aF}{d:Nat}
theorem mw{sh:List ah}{v:ah}:aK sh sh.length v=sh++ [v]:=by
 induction sh with
 |nil=>rfl
 |cons e l ih=>rw[List.length_cons,og,ih];rfl
theorem O3{sh:List ah}{v:ah}{k:Nat}(h:k=sh.length):aK sh k v=sh++ [v]:=by rw[h];exact mw
end
end Go.Ev
namespace Go.Proofs.YtcpceiclnbmgiaaGreat
open Go Go.Ev
theorem anm(n:Nat)(h:n≤1000)(sh:List ah):ae pE 95 [.i .i64 (n:Int)] sh=some (.agg [.isl .S sh.length 1 0 n 1,.isl .S (sh.length+1) 1 0 n 1,.isl .S (sh.length+2) 1 0 n 1,.isl .S (sh.length+3) 1 0 n 1,.isl .S (sh.length+4) 1 0 n 1,.isl .S (sh.length+5) 1 0 n 1,.isl .S (sh.length+6) 1 0 n 1],sh++List.replicate 7 ⟨1,.cells (repl [.i .i64 0] n) 0 false⟩):=by
 have r:n*8≤roomy:=by unfold roomy;omega
 have D:n≤roomy:=by unfold roomy;omega
 rw[an auX (by simp[c95])]
 generalize F:repl [T.i .i64 0] n=R
 simp(maxDischargeDepth:=6) only[qA,seval,eJ,sd,c95,Tg,vK,r,D,List.append_assoc,O3,List.replicate,List.length_append,F]
 rfl
theorem my{α:Type}(v:α): ∀(cs:List α) (i:Nat),i<cs.length→splice cs i [v]=cs.set i v
 |c::cs,0,_=>by simp[splice]
 |c::cs,i+1,h=>by simp[splice,my v cs i (by simpa using h)]
def inB(N:Nat)(l:List Int):List Bool:=(List.range N).map fun(i:Nat)=>decide ((i:Int)∈l)
def mF(l:List Bool):List T:=l.map T.b
theorem pP(N:Nat)(l:List Int):(mF (inB N l)).length=N:=by simp[mF,inB]
theorem O4(N:Nat):mF (inB N [])=List.replicate N (.b false):=by
 simp only[mF,inB,List.map_map]
 exact List.eq_replicate_iff.2 ⟨by simp,fun b r=>by
  obtain⟨i,_,rfl⟩:=List.mem_map.1 r
  simp⟩
theorem J0(N:Nat)(l:List Int)(x:Int)(h0:0≤x)(hN:x<N):splice (mF (inB N l)) x.toNat [.b true]=mF (inB N (l++ [x])):=by
 rw[my _ _ _ (by rw[pP];omega)]
 refine List.ext_getElem (by simp[mF,inB]) fun i h1 h2=> ?_
 rw[List.getElem_set]
 simp only[mF,inB,List.getElem_map,List.getElem_range,List.mem_append,List.mem_singleton]
 by_cases e:x.toNat=i
 ·rw[if_pos e]
  have:(i:Int)=x:=zO
  simp[this]
 ·rw[if_neg e]
  have: ¬(i:Int)=x:=zO
  simp[this]
theorem aGH(N:Nat)(hN:N≤1000)(ops:List Int)(J:T)(U:IsSl J ops.length (ints ops))(hl:ops.length≤1000)(V: ∀x∈ops,0≤x∧x<(N:Int))(G:Nat)(fr:Fr)(lh:aB ah)(sh:List ah)(h5:aa fr 5= .isl .L 14 G 0 N 1)(W:aa fr 15=J)(K:aa fr 16= .i .i64 (ops.length:Int))(X:aa fr 17= .i .i64 0)(r:ab lh 14=⟨G,.cells (mF (inB N [])) 0 false⟩):
  Lp pE 26 E3 fr lh sh (.ext 0) fun f l s=>s=sh∧ab l 14=⟨G,.cells (mF (inB N ops)) 0 false⟩:=by
 refine bV ZE (fun k f l s=>aa f 17= .i .i64 (k:Int)∧s=sh∧ab l 14=⟨G,.cells (mF (inB N (ops.take k))) 0 false⟩) ops.length ⟨X,rfl,r⟩ ?_ ?_
 ·rintro k f l _ hk D ⟨GL,rfl,r⟩
  have Y:(k:Int)<ops.length:=zO
  have Z:wr .i64 ((k:Int)+1)=((k+1:Nat):Int):=by rw[bo zO];omega
  have F:=fun kk=>U.ia (sz:=1) (k:=k) (kk:=kk) (by rw[cD];omega) hk
  simp only[Nat.mul_one]at F
  have hd:(ints ops).drop k= .i .i64 ops[k]::(ints ops).drop (k+1):=by
   simp only[ints]
   rw[List.drop_eq_getElem_cons (by simpa using hk)]
   simp
  rw[hd]at F
  obtain⟨x0,xN⟩:=V ops[k] (List.getElem_mem hk)
  have O:=J0 N (ops.take k) ops[k] x0 xN
  rw[←List.take_succ_eq_append_getElem hk]at O
  have jY:=pP N (ops.take k)
  generalize ops[k]=x at*
  have xn:x.toNat<N:=zO
  have I:x.toNat+1≤N:=zO
  simp(maxDischargeDepth:=6) only[qA,seval,gd,E3,D,h5,W,K,GL,r,Y,Z,F,x0,xn,I,jY,O]
 ·rintro f l _ D ⟨GL,rfl,r⟩
  rw[List.take_length]at r
  simp only[qA,seval,gd,E3,D,K,GL,r,Int.lt_irrefl]
theorem Cl(zT aT fT:T)(r:List T)(N:Nat)(D:lenI fT=some (.i .i64 (N:Int)))(hN:N≤1000)(ops:List Int)(I:T)(J:IsSl I ops.length (ints ops))(U:ops.length≤1000)(K: ∀x∈ops,0≤x∧x<(N:Int)):
  ae pE 56 [.vp (zT::aT::fT::r),I] []=some (.sl (mF (inB N ops)) N false,[]):=by
 have O:=fun fr lh sh=>aGH N hN ops I J U K 1 fr lh sh
 have V:N*1≤roomy:=by unfold roomy;omega
 have F:N≤roomy:=by unfold roomy;omega
 have W:=J.lenI
 have X:repl [T.b false] N=mF (inB N []):=by
  rw[O4]
  clear O D hN K V F
  induction N with
  |zero=>rfl
  |succ n ih=>rw[repl,ih,List.replicate_succ];rfl
 have jY:=pP N ops
 have Af:(mF (inB N ops)).take N=mF (inB N ops):=List.take_of_length_le zO
 rw[an ack (by simp[c56])]
 simp(maxDischargeDepth:=6) only[qA,yG,seval,c56,ZE,D,W,X,F,O,jY,Af]
def db(N:Nat)(r:Nat→Int):List T:=(List.range N).map fun(g:Nat)=>T.i .i64 (r g)
def tP(r N:Nat):List T:= [.isl .S r 1 0 N 1,.isl .S (r+1) 1 0 N 1,.isl .S (r+2) 1 0 N 1,.isl .S (r+3) 1 0 N 1,.isl .S (r+4) 1 0 N 1,.isl .S (r+5) 1 0 N 1,.isl .S (r+6) 1 0 N 1]
theorem vR(r N:Nat){h:Nat}(D:h<7):(tP r N)[h]? =some (.isl .S (r+h) 1 0 N 1):=by
 have:h=0∨h=1∨h=2∨h=3∨h=4∨h=5∨h=6:=zO
 rcases this with rfl|rfl|rfl|rfl|rfl|rfl|rfl <;> rfl
theorem jH(N:Nat)(r:Nat→Int){f:Nat}(hf:f<N):(db N r)[f]? =some (.i .i64 (r f)):=by
 unfold db;rw[List.getElem?_map,List.getElem?_range hf];rfl
theorem iq(N:Nat)(r:Nat→Int):(db N r).length=N:=by simp[db]
theorem oG(N:Nat)(r:Nat→Int)(f:Nat)(v:Int)(hf:f<N):splice (db N r) f [.i .i64 v]=db N fun g=>if g=f then v else r g:=by
 rw[my _ _ _ (by rw[iq];exact hf)]
 refine List.ext_getElem (by simp[db]) fun i h1 h2=> ?_
 rw[List.getElem_set]
 simp only[db,List.getElem_map,List.getElem_range]
 by_cases e:f=i
 ·subst e;simp
 ·rw[if_neg e,if_neg (fun h=>e h.symm)]
theorem aGI(sh:List ah)(N H r a kT:Nat)(eE:T)(b:Bool)(q:List T)(n:Nat→Nat→Int)(t w:Int)(h f:Nat)(K:h≤H)(hH:H≤6)(hf:f<N)
  (D:aE sh 0=⟨1,.cells [.i .i64 (H:Int)] 0 true⟩) (F:aE sh 1=⟨1,.cells [eE] 0 true⟩) (gA:aE sh a=⟨1,.cells (tP r N) 0 true⟩) (gT:aE sh kT=⟨1,.cells [.i .i64 t] 0 true⟩) (gR:aE sh (r+h)=⟨1,.cells (db N (n h)) 0 false⟩)
  (eK: ∀kk,dV eE (.i kk (f:Int)) 1=some (.vp (.b b::q))) (I:b=false) (J: ¬(h:Int)<(H:Int)):
  ae pE 96 [.ptr .S a 1 0,.i .i64 (h:Int),.i .i64 (f:Int),.i .i64 w,.ptr .S 1 1 0,.ptr .S kT 1 0,.ptr .S 0 1 0] sh=some (.tup [],sh):=by
 subst I
 rw[an UD (by simp[c96])]
 simp(maxDischargeDepth:=6) only[qA,seval,c96,D,F,eK,J]
 rfl
theorem dS(R:List ah)(i j:Nat)(e:ah):aE (aK R i e) j=if j=i then e else aE R j:=nV _ _ _ _ _
theorem aGJ(sh:List ah)(N H r a kT:Nat)(eE:T)(b:Bool)(q:List T)(n:Nat→Nat→Int)(t w:Int)(h f:Nat)(hh:h≤H)(hH:H≤6)(hf:f<N)(hN:N≤1000)
  (D:aE sh 0=⟨1,.cells [.i .i64 (H:Int)] 0 true⟩) (F:aE sh 1=⟨1,.cells [eE] 0 true⟩) (gA:aE sh a=⟨1,.cells (tP r N) 0 true⟩) (gT:aE sh kT=⟨1,.cells [.i .i64 t] 0 true⟩) (gR:aE sh (r+h)=⟨1,.cells (db N (n h)) 0 false⟩)
  (eK: ∀kk,dV eE (.i kk (f:Int)) 1=some (.vp (.b b::q))) (I:b=true) (J: ¬(h:Int)<(H:Int)) (K:kT≠r+h) (d2:a≠r+h) (d3:1≠r+h) (O:0≠r+h) (U:0≠kT):
  ae pE 96 [.ptr .S a 1 0,.i .i64 (h:Int),.i .i64 (f:Int),.i .i64 w,.ptr .S 1 1 0,.ptr .S kT 1 0,.ptr .S 0 1 0] sh=some (.tup [],aK (aK sh (r+h) ⟨1,.cells (db N fun g=>if g=f then wr .i64 (n h f+w)else n h g) 0 false⟩) kT ⟨1,.cells [.i .i64 (wr .i64 (t+w))] 0 true⟩):=by
 subst I
 have V:=vR r N (h:=h) zO
 have hr:=jH N (n h) hf
 have hs:=oG N (n h) f (wr .i64 (n h f+w)) hf
 have W:=iq N (n h)
 have X:(tP r N).length=7:=rfl
 have Y:h<7:=zO
 have Z:h+1≤7:=zO
 have vd:f+1≤N:=zO
 rw[an UD (by simp[c96])]
 simp(maxDischargeDepth:=6) only[qA,eh,seval,eJ,c96,dS,D,F,gA,gT,gR,eK,J,V,hr,hs,W,Y,hf,vd,K,O,U]
 rfl
theorem aGL(sh:List ah)(N H r a kT:Nat)(eE:T)(b:Bool)(q:List T)(n:Nat→Nat→Int)(t w:Int)(h f:Nat)(hh:h<H)(hH:H≤6)(hf:f<N)(hN:N≤1000)
  (D:aE sh 0=⟨1,.cells [.i .i64 (H:Int)] 0 true⟩) (F:aE sh 1=⟨1,.cells [eE] 0 true⟩) (gA:aE sh a=⟨1,.cells (tP r N) 0 true⟩) (gT:aE sh kT=⟨1,.cells [.i .i64 t] 0 true⟩) (gR:aE sh (r+(h+1))=⟨1,.cells (db N (n (h+1))) 0 false⟩)
  (eK: ∀kk,dV eE (.i kk (f:Int)) 1=some (.vp (.b b::q))) (I:b=false) (J:kT≠r+(h+1)) (d2:a≠r+(h+1)) (d3:1≠r+(h+1)) (d4:0≠r+(h+1)) (d5:0≠kT):
  ae pE 96 [.ptr .S a 1 0,.i .i64 (h:Int),.i .i64 (f:Int),.i .i64 w,.ptr .S 1 1 0,.ptr .S kT 1 0,.ptr .S 0 1 0] sh=some (.tup [],aK (aK sh (r+(h+1)) ⟨1,.cells (db N fun g=>if g=f then wr .i64 (n (h+1) f+w)else n (h+1) g) 0 false⟩) kT ⟨1,.cells [.i .i64 (wr .i64 (t+w))] 0 true⟩):=by
 subst I
 have K:=vR r N (h:=h+1) zO
 have hr:=jH N (n (h+1)) hf
 have hs:=oG N (n (h+1)) f (wr .i64 (n (h+1) f+w)) hf
 have O:=iq N (n (h+1))
 have U:(tP r N).length=7:=rfl
 have V:wr .i64 ((h:Int)+1)=((h+1:Nat):Int):=by rw[bo zO];omega
 have W:h+1<7:=zO
 have X:h+1+1≤7:=zO
 have Y:f+1≤N:=zO
 have Z:(h:Int)<(H:Int):=zO
 generalize h+1=m at*
 rw[an UD (by simp[c96])]
 simp(maxDischargeDepth:=6) only[qA,eh,seval,eJ,c96,dS,D,F,gA,gT,gR,eK,Z,K,hr,hs,O,W,V,hf,Y,J]
 rfl
theorem aGM(sh:List ah)(N H r a kT:Nat)(eE:T)(b:Bool)(q:List T)(n:Nat→Nat→Int)(t w:Int)(h f:Nat)(hh:h<H)(hH:H≤6)(hf:f<N)(hN:N≤1000)
  (O:aE sh 0=⟨1,.cells [.i .i64 (H:Int)] 0 true⟩) (U:aE sh 1=⟨1,.cells [eE] 0 true⟩) (gA:aE sh a=⟨1,.cells (tP r N) 0 true⟩) (gT:aE sh kT=⟨1,.cells [.i .i64 t] 0 true⟩) (gR:aE sh (r+h)=⟨1,.cells (db N (n h)) 0 false⟩) (gS:aE sh (r+(h+1))=⟨1,.cells (db N (n (h+1))) 0 false⟩)
  (eK: ∀kk,dV eE (.i kk (f:Int)) 1=some (.vp (.b b::q))) (V:b=true) (W:kT≠r+h) (X:a≠r+h) (c3:1≠r+h) (c4:0≠r+h) (K:kT≠r+(h+1)) (d2:a≠r+(h+1)) (d3:1≠r+(h+1)) (d4:0≠r+(h+1)) (Y:0≠kT) (Z:a≠kT) (d7:1≠kT):
  ae pE 96 [.ptr .S a 1 0,.i .i64 (h:Int),.i .i64 (f:Int),.i .i64 w,.ptr .S 1 1 0,.ptr .S kT 1 0,.ptr .S 0 1 0] sh=some (.tup [],aK (aK (aK (aK sh (r+h) ⟨1,.cells (db N fun g=>if g=f then wr .i64 (n h f+w)else n h g) 0 false⟩) kT ⟨1,.cells [.i .i64 (wr .i64 (t+w))] 0 true⟩) (r+(h+1)) ⟨1,.cells (db N fun g=>if g=f then wr .i64 (n (h+1) f+w)else n (h+1) g) 0 false⟩) kT ⟨1,.cells [.i .i64 (wr .i64 (wr .i64 (t+w)+w))] 0 true⟩):=by
 subst V
 have hg:=vR r N (h:=h+1) zO
 have hr:=jH N (n (h+1)) hf
 have hs:=oG N (n (h+1)) f (wr .i64 (n (h+1) f+w)) hf
 have hl:=iq N (n (h+1))
 have D:=vR r N (h:=h) zO
 have F:=jH N (n h) hf
 have I:=oG N (n h) f (wr .i64 (n h f+w)) hf
 have xS:=iq N (n h)
 have hl7:(tP r N).length=7:=rfl
 have hw:wr .i64 ((h:Int)+1)=((h+1:Nat):Int):=by rw[bo zO];omega
 have e7:h<7:=zO
 have e7':h+1≤7:=zO
 have h7:h+1<7:=zO
 have h7':h+1+1≤7:=zO
 have vd:f+1≤N:=zO
 have ft:(h:Int)<(H:Int):=zO
 have d8:r+(h+1)≠r+h:=zO
 have J:=Ne.symm K
 generalize h+1=m at*
 rw[an UD (by simp[c96])]
 simp(maxDischargeDepth:=6) only[qA,eh,seval,eJ,Go.Proofs.YtcpceiclnbmgiaaGreat.c96,dS,O,U,gA,gT,gR,gS,eK,ft,hg,hr,hs,hl,D,F,I,xS,h7,e7,hw,hf,vd,W,X,c4,K,J,Y,Z,d8]
 rfl
structure Cc (sh:List ah) (N H rb a kT:Nat) (eE:T) (n:Nat→Nat→Int) (t:Int):Prop where
 g0:aE sh 0=⟨1,.cells [.i .i64 (H:Int)] 0 true⟩
 g1:aE sh 1=⟨1,.cells [eE] 0 true⟩
 gA:aE sh a=⟨1,.cells (tP rb N) 0 true⟩
 gT:aE sh kT=⟨1,.cells [.i .i64 t] 0 true⟩
 gR: ∀i,i<7→aE sh (rb+i)=⟨1,.cells (db N (n i)) 0 false⟩
 b:rb+7≤sh.length∧kT<sh.length
def Ge(r a kT:Nat):Prop:=2≤r∧(a<r∨r+7≤a)∧(kT<r∨r+7≤kT)∧a≠kT∧2≤a∧2≤kT
def tQ(H:Nat)(b:Bool)(h f:Nat)(w:Int)(n:Nat→Nat→Int):Nat→Nat→Int:=fun r g=>if g=f∧((r=h∧b=true)∨(r=h+1∧h<H))then wr .i64 (n r g+w)else n r g
def Cm(H:Nat)(b:Bool)(h:Nat)(w t:Int):Int:=if h<H then wr .i64 ((if b=true then wr .i64 (t+w)else t)+w)else if b=true then wr .i64 (t+w)else t
theorem fV{N:Nat}{r s:Nat→Int}(h: ∀g,r g=s g):db N r=db N s:=by rw[show r=s from funext h]
theorem ZF(sh:List ah)(N H r a kT:Nat)(eE:T)(b:Bool)(q:List T)(n:Nat→Nat→Int)(t w:Int)(h f:Nat)(W:h≤H)(hH:H≤6)(hf:f<N)(hN:N≤1000)(hG:Ge r a kT)(hC:Cc sh N H r a kT eE n t)(eK: ∀kk,dV eE (.i kk (f:Int)) 1=some (.vp (.b b::q))):
  ∃O,ae pE 96 [.ptr .S a 1 0,.i .i64 (h:Int),.i .i64 (f:Int),.i .i64 w,.ptr .S 1 1 0,.ptr .S kT 1 0,.ptr .S 0 1 0] sh=some (.tup [],O)∧Cc O N H r a kT eE (tQ H b h f w n) (Cm H b h w t)∧O.length=sh.length∧ ∀k,k≠kT→(k<r∨r+7≤k)→aE O k=aE sh k:=by
 obtain⟨F,I,gA,gT,gR,U,V⟩:=hC
 obtain⟨e1,e2,e3,e4,e5,e6⟩:=hG
 have D: ∀(R:List ah) (k:Nat) (e:ah),k<R.length→(aK R k e).length=R.length:=fun R k e h=>bU R k e h
 by_cases J:h<H
 ·cases b with
  |false=>
   refine⟨_,aGL sh N H r a kT eE false q n t w h f J hH hf hN F I gA gT (gR (h+1) zO) eK rfl zO zO zO zO zO,⟨?_, ?_, ?_, ?_, ?_, ?_⟩, ?_, ?_⟩
   ·rw[dS,dS,if_neg zO,if_neg zO];exact F
   ·rw[dS,dS,if_neg zO,if_neg zO];exact I
   ·rw[dS,dS,if_neg zO,if_neg zO];exact gA
   ·rw[dS,if_pos rfl];unfold Cm;rw[if_pos J,if_neg yv]
   ·intro i hi
    rw[dS,dS,if_neg zO]
    by_cases e:i=h+1
    ·subst e
     rw[if_pos rfl]
     refine congrArg (fun c=>ah.mk 1 (.cells c 0 false)) (fV fun g=> ?_)
     unfold tQ
     by_cases K:g=f <;> simp[K,J]
    ·rw[if_neg zO,gR i hi]
     refine congrArg (fun c=>ah.mk 1 (.cells c 0 false)) (fV fun g=> ?_)
     unfold tQ
     rw[if_neg (by simp[e])]
   ·rw[D _ _ _ (by rw[D _ _ _ zO];omega),D _ _ _ zO];exact⟨U,V⟩
   ·rw[D _ _ _ (by rw[D _ _ _ zO];omega),D _ _ _ zO]
   ·intro k X Y;rw[dS,dS,if_neg zO,if_neg zO]
  |true=>
   have Sd: ∀(e1 e2 e3 e4:ah),(aK (aK (aK (aK sh (r+h) e1) kT e2) (r+(h+1)) e3) kT e4).length=sh.length:=fun e1 e2 e3 e4=>by
    have q1:=D sh (r+h) e1 zO
    have q2:=D (aK sh (r+h) e1) kT e2 zO
    have q3:=D (aK (aK sh (r+h) e1) kT e2) (r+(h+1)) e3 zO
    have q4:=D (aK (aK (aK sh (r+h) e1) kT e2) (r+(h+1)) e3) kT e4 zO
    omega
   refine⟨_,aGM sh N H r a kT eE true q n t w h f J hH hf hN F I gA gT (gR h zO) (gR (h+1) zO) eK rfl zO zO zO zO zO zO zO zO zO zO zO,⟨?_, ?_, ?_, ?_, ?_, ?_⟩,Sd _ _ _ _, ?_⟩
   ·rw[dS,dS,dS,dS,if_neg zO,if_neg zO,if_neg zO,if_neg zO];exact F
   ·rw[dS,dS,dS,dS,if_neg zO,if_neg zO,if_neg zO,if_neg zO];exact I
   ·rw[dS,dS,dS,dS,if_neg zO,if_neg zO,if_neg zO,if_neg zO];exact gA
   ·rw[dS,if_pos rfl];unfold Cm;rw[if_pos J,if_pos rfl]
   ·intro i hi
    rw[dS,if_neg zO,dS]
    by_cases e:i=h+1
    ·subst e
     rw[if_pos rfl]
     refine congrArg (fun c=>ah.mk 1 (.cells c 0 false)) (fV fun g=> ?_)
     unfold tQ
     by_cases K:g=f <;> simp[K,J]
    ·rw[if_neg zO,dS,if_neg zO,dS]
     by_cases Z:i=h
     ·subst Z
      rw[if_pos rfl]
      refine congrArg (fun c=>ah.mk 1 (.cells c 0 false)) (fV fun g=> ?_)
      unfold tQ
      by_cases K:g=f <;> simp[K]
     ·rw[if_neg zO,gR i hi]
      refine congrArg (fun c=>ah.mk 1 (.cells c 0 false)) (fV fun g=> ?_)
      unfold tQ
      rw[if_neg (by simp[e,Z])]
   ·rw[Sd];exact⟨U,V⟩
   ·intro k X Y;rw[dS,dS,dS,dS,if_neg zO,if_neg zO,if_neg zO,if_neg zO]
 ·cases b with
  |false=>
   refine⟨sh,aGI sh N H r a kT eE false q n t w h f W hH hf F I gA gT (gR h zO) eK rfl zO, ?_,rfl,fun _ _ _=>rfl⟩
   have ez:tQ H false h f w n=n:=funext fun h'=>funext fun g=>by unfold tQ;rw[if_neg (by simp;omega)]
   have ey:Cm H false h w t=t:=by unfold Cm;rw[if_neg J,if_neg yv]
   rw[ez,ey]
   exact⟨F,I,gA,gT,gR,U,V⟩
  |true=>
   refine⟨_,aGJ sh N H r a kT eE true q n t w h f W hH hf hN F I gA gT (gR h zO) eK rfl zO zO zO zO zO zO,⟨?_, ?_, ?_, ?_, ?_, ?_⟩, ?_, ?_⟩
   ·rw[dS,dS,if_neg zO,if_neg zO];exact F
   ·rw[dS,dS,if_neg zO,if_neg zO];exact I
   ·rw[dS,dS,if_neg zO,if_neg zO];exact gA
   ·rw[dS,if_pos rfl];unfold Cm;rw[if_neg J,if_pos rfl]
   ·intro i hi
    rw[dS,dS,if_neg zO]
    by_cases e:i=h
    ·subst e
     rw[if_pos rfl]
     refine congrArg (fun c=>ah.mk 1 (.cells c 0 false)) (fV fun g=> ?_)
     unfold tQ
     by_cases K:g=f <;> simp[K]
    ·rw[if_neg zO,gR i hi]
     refine congrArg (fun c=>ah.mk 1 (.cells c 0 false)) (fV fun g=> ?_)
     unfold tQ
     rw[if_neg (by simp[e];omega)]
   ·rw[D _ _ _ (by rw[D _ _ _ zO];omega),D _ _ _ zO];exact⟨U,V⟩
   ·rw[D _ _ _ (by rw[D _ _ _ zO];omega),D _ _ _ zO]
   ·intro k X Y;rw[dS,dS,if_neg zO,if_neg zO]
def yM(H:Nat)(aH:Nat→Bool)(h:Nat)(w:Int):List Nat→(Nat→Nat→Int)×Int→(Nat→Nat→Int)×Int
 | [],p=>p
 |g::l,p=>yM H aH h w l (tQ H (aH g) h g w p.1,Cm H (aH g) h w p.2)
theorem cd1(N H D a kT:Nat)(eE:T)(aH:Nat→Bool)(eK: ∀f,f<N→ ∃q,∀kk,dV eE (.i kk (f:Int)) 1=some (.vp (.b (aH f)::q)))(hH:H≤6)(hN:N≤1000)(hG:Ge D a kT)(r:List Nat)(U: ∀g∈r,g<N)(gT:T)(hg:IsSl gT r.length (ints (r.map Int.ofNat)))(h:Nat)(hh:h≤H)(w:Int)(n:Nat→Nat→Int)(t:Int)(Z:r.length≤1000)(fr:Fr)(lh:aB ah)(sh:List ah)(V:aa fr 12= .fn 96 [] [.ptr .S 1 1 0,.ptr .S kT 1 0,.ptr .S 0 1 0])(cH:aa fr 14= .ptr .S a 1 0)(je:aa fr 15= .i .i64 (h:Int))(j4:aa fr 17= .i .i64 w)(yN:aa fr 65=gT)(I:aa fr 66= .i .i64 (r.length:Int))(W:aa fr 67= .i .i64 0)(J:Cc sh N H D a kT eE n t):
  Lp pE 82 E2 fr lh sh (.ext 8) fun f l s=>l=lh∧Cc s N H D a kT eE (yM H aH h w r (n,t)).1 (yM H aH h w r (n,t)).2∧s.length=sh.length∧ ∀k,k≠kT→(k<D∨D+7≤k)→aE s k=aE sh k:=by
 refine bV ZG (fun k f l s=>aa f 67= .i .i64 (k:Int)∧l=lh∧s.length=sh.length∧(∀k,k≠kT→(k<D∨D+7≤k)→aE s k=aE sh k)∧ ∃p:(Nat→Nat→Int)×Int,Cc s N H D a kT eE p.1 p.2∧yM H aH h w (r.drop k) p=yM H aH h w r (n,t)) r.length ⟨W,rfl,rfl,fun _ _ _=>rfl,(n,t),J,rfl⟩ ?_ ?_
 ·rintro k f _ s hk X ⟨F,rfl,hl,Y,p,J,K⟩
  have aN:(k:Int)<r.length:=zO
  have hw:wr .i64 ((k:Int)+1)=((k+1:Nat):Int):=by rw[bo zO];omega
  have aQ:=fun kk=>hg.ia (sz:=1) (k:=k) (kk:=kk) (by rw[cD,List.length_map];omega) hk
  have hd:(ints (r.map Int.ofNat)).drop (k*1)= .i .i64 (r[k]:Int)::(ints (r.map Int.ofNat)).drop (k+1):=by
   rw[Nat.mul_one,List.drop_eq_getElem_cons (by simpa[ints]using hk)]
   simp[ints]
  rw[hd]at aQ
  have O:=U r[k] (List.getElem_mem hk)
  obtain⟨q,hq⟩:=eK r[k] O
  obtain⟨s',e1,e2,e3,e4⟩:=ZF s N H D a kT eE (aH r[k]) q p.1 p.2 w h r[k] hh hH O hN hG J hq
  rw[List.drop_eq_getElem_cons hk,yM]at K
  generalize r[k]=g at*
  simp(maxDischargeDepth:=6) only[qA,eh,seval,gd,E2,X,V,cH,je,j4,yN,I,F,aN,hw,aQ,e1,auZ]
  exact⟨by omega,fun k h1 h2=>(e4 k h1 h2).trans (Y k h1 h2),(_,_),e2,K⟩
 ·rintro f _ s X ⟨F,rfl,hl,Y,p,J,K⟩
  rw[List.drop_length,yM]at K
  subst K
  simp only[qA,seval,gd,E2,X,I,F,Int.lt_irrefl]
  exact⟨J,hl,Y⟩
def tR(H:Nat)(aH:Nat→Bool)(nx:Nat→List Nat)(h:Nat)(r:Nat→Int):List Nat→(Nat→Nat→Int)×Int→(Nat→Nat→Int)×Int
 | [],p=>p
 |f::l,p=>tR H aH nx h r l (if r f=0 then p else yM H aH h (r f) (nx f) p)
theorem cd2(N H D a kT O:Nat)(eE nT:T)(aH:Nat→Bool)(nx:Nat→List Nat)(eK: ∀f,f<N→ ∃q,∀kk,dV eE (.i kk (f:Int)) 1=some (.vp (.b (aH f)::q)))(fO: ∀f,f<N→ ∃gT q,(∀kk,dV nT (.i kk (f:Int)) 1=some (.vp (gT::q)))∧IsSl gT (nx f).length (ints ((nx f).map Int.ofNat))∧(nx f).length≤1000∧ ∀g∈nx f,g<N)(hH:H≤6)(hN:N≤1000)(hG:Ge D a kT)(h:Nat)(hh:h≤H)(r:Nat→Int)(n:Nat→Nat→Int)(t:Int)(V:O+h≠kT∧(O+h<D∨D+7≤O+h))(fr:Fr)(lh:aB ah)(sh:List ah)(h9:aa fr 9=nT)(F:aa fr 12= .fn 96 [] [.ptr .S 1 1 0,.ptr .S kT 1 0,.ptr .S 0 1 0])(W:aa fr 14= .ptr .S a 1 0)(X:aa fr 15= .i .i64 (h:Int))(yH:aa fr 53= .isl .S (O+h) 1 0 N 1)(zP:aa fr 54= .i .i64 (N:Int))(h55:aa fr 55= .i .i64 0)(hr:aE sh (O+h)=⟨1,.cells (db N r) 0 false⟩)(U:Cc sh N H D a kT eE n t):
  Lp pE 82 AF fr lh sh (.ext 6) fun f l s=>l=lh∧Cc s N H D a kT eE (tR H aH nx h r (List.range N) (n,t)).1 (tR H aH nx h r (List.range N) (n,t)).2∧s.length=sh.length∧ ∀k,k≠kT→(k<D∨D+7≤k)→aE s k=aE sh k:=by
 refine bV ZH (fun k f l s=>aa f 55= .i .i64 (k:Int)∧l=lh∧s.length=sh.length∧(∀k,k≠kT→(k<D∨D+7≤k)→aE s k=aE sh k)∧ ∃p:(Nat→Nat→Int)×Int,Cc s N H D a kT eE p.1 p.2∧tR H aH nx h r ((List.range N).drop k) p=tR H aH nx h r (List.range N) (n,t)) N ⟨h55,rfl,rfl,fun _ _ _=>rfl,(n,t),U,rfl⟩ ?_ ?_
 ·rintro k f _ s hk I ⟨J,rfl,hl,Y,p,U,K⟩
  have aN:(k:Int)<N:=zO
  have hw:wr .i64 ((k:Int)+1)=((k+1:Nat):Int):=by rw[bo zO];omega
  obtain⟨gT,q,aQ,Z,hg1,hg2⟩:=fO k hk
  have afO:aE s (O+h)=⟨1,.cells (db N r) 0 false⟩:=(Y _ V.1 V.2).trans hr
  have uS:=jH N r hk
  have jY:=iq N r
  have hk1:k+1≤N:=zO
  rw[List.drop_eq_getElem_cons (by simpa using hk),List.getElem_range,tR]at K
  have dm:=Z.lenI
  by_cases hz:r k=0
  ·rw[if_pos hz]at K
   simp(maxDischargeDepth:=6) only[qA,seval,gd,AF,I,yH,zP,J,aN,hk,hw,afO,uS,hz]
   exact⟨hl,Y,p,U,K⟩
  ·rw[if_neg hz]at K
   have hL:=fun fr lh F W X j4 yN h66 h67=>cd1 N H D a kT eE aH eK hH hN hG (nx k) hg2 gT Z h hh (r k) p.1 p.2 hg1 fr lh s F W X j4 yN h66 h67 U
   simp(maxDischargeDepth:=6) only[qA,seval,gd,AF,ZG,I,h9,F,W,X,yH,zP,J,aN,hk,hw,afO,uS,hz,aQ,dm,hL]
   exact⟨hl,fun j h1 h2=>((hL _ _ (by simp only[qA,seval,I,F]) (by simp only[qA,seval,I,W]) (by simp only[qA,seval,I,X]) wL wL wL wL).2.2.2.2 j h1 h2).trans (Y j h1 h2),(_,_),(hL _ _ (by simp only[qA,seval,I,F]) (by simp only[qA,seval,I,W]) (by simp only[qA,seval,I,X]) wL wL wL wL).2.2.1,K⟩
 ·rintro f _ s I ⟨J,rfl,hl,Y,p,U,K⟩
  rw[List.drop_of_length_le xv,tR]at K
  subst K
  simp only[qA,seval,gd,AF,I,zP,J,Int.lt_irrefl]
  exact⟨U,hl,Y⟩
def xt(N H:Nat)(aH:Nat→Bool)(nx:Nat→List Nat)(r:Nat→Nat→Int):List Nat→(Nat→Nat→Int)×Int→(Nat→Nat→Int)×Int
 | [],p=>p
 |h::l,p=>xt N H aH nx r l (tR H aH nx h (r h) (List.range N) p)
theorem cd3(N H D a kT I U:Nat)(eE nT:T)(aH:Nat→Bool)(nx:Nat→List Nat)(eK: ∀f,f<N→ ∃q,∀kk,dV eE (.i kk (f:Int)) 1=some (.vp (.b (aH f)::q)))(fO: ∀f,f<N→ ∃gT q,(∀kk,dV nT (.i kk (f:Int)) 1=some (.vp (gT::q)))∧IsSl gT (nx f).length (ints ((nx f).map Int.ofNat))∧(nx f).length≤1000∧ ∀g∈nx f,g<N)(hH:H≤6)(hN:N≤1000)(hG:Ge D a kT)(r n:Nat→Nat→Int)(t:Int)(K: ∀h,h<7→I+h≠kT∧(I+h<D∨D+7≤I+h))(W:U≠kT∧(U<D∨D+7≤U))(fr:Fr)(lh:aB ah)(sh:List ah)(X:aa fr 9=nT)(h10:aa fr 10= .ptr .S U 1 0)(F:aa fr 12= .fn 96 [] [.ptr .S 1 1 0,.ptr .S kT 1 0,.ptr .S 0 1 0])(Y:aa fr 14= .ptr .S a 1 0)(Z:aa fr 47= .i .i64 ((H+1:Nat):Int))(h48:aa fr 48= .i .i64 0)(hb:aE sh U=⟨1,.cells (tP I N) 0 true⟩)(hr: ∀h,h<7→aE sh (I+h)=⟨1,.cells (db N (r h)) 0 false⟩)(hC:Cc sh N H D a kT eE n t):
  Lp pE 82 AG fr lh sh (.ext 4) fun f l s=>l=lh∧Cc s N H D a kT eE (xt N H aH nx r (List.range (H+1)) (n,t)).1 (xt N H aH nx r (List.range (H+1)) (n,t)).2∧s.length=sh.length∧ ∀k,k≠kT→(k<D∨D+7≤k)→aE s k=aE sh k:=by
 refine bV ZI (fun k f l s=>aa f 48= .i .i64 (k:Int)∧l=lh∧s.length=sh.length∧(∀k,k≠kT→(k<D∨D+7≤k)→aE s k=aE sh k)∧ ∃p:(Nat→Nat→Int)×Int,Cc s N H D a kT eE p.1 p.2∧xt N H aH nx r ((List.range (H+1)).drop k) p=xt N H aH nx r (List.range (H+1)) (n,t)) (H+1) ⟨h48,rfl,rfl,fun _ _ _=>rfl,(n,t),hC,rfl⟩ ?_ ?_
 ·rintro k f _ s hk J ⟨O,rfl,hl,eD,p,hC,hp⟩
  have aN:(k:Int)<((H+1:Nat):Int):=zO
  have hw:wr .i64 ((k:Int)+1)=((k+1:Nat):Int):=by rw[bo zO];omega
  have V:k<7:=zO
  have k7':k+1≤7:=zO
  have hbs:aE s U=⟨1,.cells (tP I N) 0 true⟩:=(eD _ W.1 W.2).trans hb
  have afO:aE s (I+k)=⟨1,.cells (db N (r k)) 0 false⟩:=(eD _ (K k V).1 (K k V).2).trans (hr k V)
  have hg:=vR I N V
  have hl7:(tP I N).length=7:=rfl
  rw[List.drop_eq_getElem_cons (by simpa using hk),List.getElem_range,xt]at hp
  have hL:=fun fr lh X F Y je yH zP h55=>cd2 N H D a kT I eE nT aH nx eK fO hH hN hG k zO (r k) p.1 p.2 (K k V) fr lh s X F Y je yH zP h55 afO hC
  simp(maxDischargeDepth:=6) only[qA,seval,gd,eJ,AG,ZH,J,X,h10,F,Y,Z,O,aN,hw,hbs,hg,V,hL]
  exact⟨hl,fun j h1 h2=>((hL _ _ (by simp only[qA,seval,J,X]) (by simp only[qA,seval,J,F]) (by simp only[qA,seval,J,Y]) wL wL wL wL).2.2.2.2 j h1 h2).trans (eD j h1 h2),(_,_),(hL _ _ (by simp only[qA,seval,J,X]) (by simp only[qA,seval,J,F]) (by simp only[qA,seval,J,Y]) wL wL wL wL).2.2.1,hp⟩
 ·rintro f _ s J ⟨O,rfl,hl,eD,p,hC,hp⟩
  rw[List.drop_of_length_le xv,xt]at hp
  subst hp
  simp only[qA,seval,gd,AG,J,Z,O,Int.lt_irrefl]
  exact⟨hC,hl,eD⟩
def Cp(H:Nat)(aH:Nat→Bool):List Nat→(Nat→Nat→Int)×Int→(Nat→Nat→Int)×Int
 | [],p=>p
 |f::l,p=>Cp H aH l (tQ H (aH f) 0 f 1 p.1,Cm H (aH f) 0 1 p.2)
theorem cd0(N H r a kT:Nat)(eE:T)(aH:Nat→Bool)(eK: ∀f,f<N→ ∃q,∀kk,dV eE (.i kk (f:Int)) 1=some (.vp (.b (aH f)::q)))(hH:H≤6)(hN:N≤1000)(X:Ge r a kT)(n:Nat→Nat→Int)(t:Int)(fr:Fr)(lh:aB ah)(sh:List ah)(J:aa fr 10= .ptr .S a 1 0)(K:aa fr 12= .fn 96 [] [.ptr .S 1 1 0,.ptr .S kT 1 0,.ptr .S 0 1 0])(Gz:aa fr 34= .i .i64 (N:Int))(O:aa fr 35= .i .i64 0)(F:Cc sh N H r a kT eE n t):
  Lp pE 82 AI fr lh sh (.ext 0) fun f l s=>l=lh∧Cc s N H r a kT eE (Cp H aH (List.range N) (n,t)).1 (Cp H aH (List.range N) (n,t)).2∧s.length=sh.length∧ ∀k,k≠kT→(k<r∨r+7≤k)→aE s k=aE sh k:=by
 refine bV ZJ (fun k f l s=>aa f 35= .i .i64 (k:Int)∧l=lh∧s.length=sh.length∧(∀k,k≠kT→(k<r∨r+7≤k)→aE s k=aE sh k)∧ ∃p:(Nat→Nat→Int)×Int,Cc s N H r a kT eE p.1 p.2∧Cp H aH ((List.range N).drop k) p=Cp H aH (List.range N) (n,t)) N ⟨O,rfl,rfl,fun _ _ _=>rfl,(n,t),F,rfl⟩ ?_ ?_
 ·rintro k f _ s hk U ⟨D,rfl,W,V,p,F,I⟩
  have Y:(k:Int)<N:=zO
  have Z:wr .i64 ((k:Int)+1)=((k+1:Nat):Int):=by rw[bo zO];omega
  obtain⟨q,hq⟩:=eK k hk
  obtain⟨s',e1,e2,e3,e4⟩:=ZF s N H r a kT eE (aH k) q p.1 p.2 1 0 k zO hH hk hN X F hq
  have e1:ae pE 96 [.ptr .S a 1 0,.i .i64 0,.i .i64 (k:Int),.i .i64 1,.ptr .S 1 1 0,.ptr .S kT 1 0,.ptr .S 0 1 0] s=some (.tup [],s'):=e1
  rw[List.drop_eq_getElem_cons (by simpa using hk),List.getElem_range,Cp]at I
  simp(maxDischargeDepth:=6) only[qA,eh,seval,gd,AI,U,J,K,Gz,D,Y,Z,e1,auZ]
  exact⟨by omega,fun k h1 h2=>(e4 k h1 h2).trans (V k h1 h2),(_,_),e2,I⟩
 ·rintro f _ s U ⟨D,rfl,W,V,p,F,I⟩
  rw[List.drop_of_length_le xv,Cp]at I
  subst I
  simp only[qA,seval,gd,AI,U,Gz,D,Int.lt_irrefl]
  exact⟨F,W,V⟩
theorem ano{lh:aB ah}{sh:List ah}{k:Nat}{cs:List T}(D:aE sh k=⟨1,.cells cs 0 true⟩)(hc:cs.length=7)(r N:Nat):Ev.stV lh sh (.ptr .S k 1 0) (.agg (tP r N)) 7=some (lh,aK sh k ⟨1,.cells (tP r N) 0 true⟩):=by
 rw[iL (by rfl) D,dD,if_pos ⟨rfl,rfl,rfl,Nat.le_refl _,by omega⟩]
 refine congrArg (fun c=>some (lh,aK sh k ⟨1,.cells c 0 true⟩)) ?_
 match cs,hc with
 | [_,_,_,_,_,_,_],_=>rfl
theorem azf(n:Nat)(h:n≤1000)(sh:List ah):ae pE 95 [.i .i64 (n:Int)] sh=some (.agg (tP sh.length n),sh++List.replicate 7 ⟨1,.cells (db n fun _=>0) 0 false⟩):=by
 rw[anm n h sh,show repl [T.i .i64 0] n=db n fun _=>0 from ?_]
 ·rfl
 ·clear h
  induction n with
  |zero=>rfl
  |succ n ih=>
   rw[repl,ih]
   unfold db
   rw[List.range_succ_eq_map,List.map_cons,List.map_map]
   rfl
theorem sZ{E:Env}{n:Nat}{a:ak}{m:Nat}(r:wrM (jh (.loop a))=m){fr:Fr}{lh:aB ah}{sh:List ah}{D:Option (Out×St)}(F:DC E n (.loop a) ⟨fr,lh,sh⟩=D){o:Out}{P:Fr→aB ah→List ah→Prop}(h:Lp E n a fr lh sh o P):
  ∃f l s,D=some (o,⟨f,l,s⟩)∧P f l s∧ ∀j,(m >>> j)%2=0→aa f j=aa fr j:=
 ⟨_,_,_,F.symm.trans h.1,h.2,fun j I=>D2 (by rw[r];exact I)⟩
theorem oH{a b:List ah}{k:Nat}(h:k<a.length):aE (a++b) k=aE a k:=by
 induction a generalizing k with
 |nil=>simp at h
 |cons x xs ih=>
  cases k with
  |zero=>rfl
  |succ k=>rw[List.cons_append,oe,oe,ih (by simpa using h)]
theorem oI{a b:List ah}{k:Nat}:aE (a++b) (a.length+k)=aE b k:=by
 induction a with
 |nil=>rw[List.nil_append,List.length_nil,Nat.zero_add]
 |cons x xs ih=>rw[List.cons_append,List.length_cons,show xs.length+1+k=(xs.length+k)+1 by omega,oe,ih]
theorem J1{e:ah}: ∀{n i:Nat},i<n→aE (List.replicate n e) i=e
 |n+1,0,_=>rfl
 |n+1,i+1,h=>by rw[List.replicate_succ,oe,J1 zO]
def rnd(N H:Nat)(aH:Nat→Bool)(nx:Nat→List Nat)(p:(Nat→Nat→Int)×Int):(Nat→Nat→Int)×Int:=xt N H aH nx p.1 (List.range (H+1)) (fun _ _=>0,p.2)
def Mz(N H:Nat)(aH:Nat→Bool)(nx:Nat→List Nat):Nat→(Nat→Nat→Int)×Int→(Nat→Nat→Int)×Int
 |0,p=>p
 |k+1,p=>Mz N H aH nx k (rnd N H aH nx p)
structure Cr (sh:List ah) (N H:Nat) (eE:T) (rn:Nat) (now:Nat→Nat→Int) (t:Int):Prop where
 g0:aE sh 0=⟨1,.cells [.i .i64 (H:Int)] 0 true⟩
 g1:aE sh 1=⟨1,.cells [eE] 0 true⟩
 gB:aE sh 9=⟨1,.cells (tP rn N) 0 true⟩
 gT:aE sh 10=⟨1,.cells [.i .i64 t] 0 true⟩
 gR: ∀i,i<7→aE sh (rn+i)=⟨1,.cells (db N (now i)) 0 false⟩
 b:11≤sh.length∧rn+7≤sh.length∧(rn=2∨11≤rn)
section
variable(N H:Nat)(eE nT:T)(aH:Nat→Bool)(nx:Nat→List Nat)(eK: ∀f,f<N→ ∃q,∀kk,dV eE (.i kk (f:Int)) 1=some (.vp (.b (aH f)::q)))(fO: ∀f,f<N→ ∃gT q,(∀kk,dV nT (.i kk (f:Int)) 1=some (.vp (gT::q)))∧IsSl gT (nx f).length (ints ((nx f).map Int.ofNat))∧(nx f).length≤1000∧ ∀g∈nx f,g<N)(hH:H≤6)(hN:N≤1000)
include eK fO hH hN
theorem cd4(J:(Nat→Nat→Int)×Int)(fr:Fr)(lh:aB ah)(sh:List ah)(h5:aa fr 5= .ptr .S 0 1 0)(h7:aa fr 7= .i .i64 (N:Int))(h9:aa fr 9=nT)(K:aa fr 10= .ptr .S 9 1 0)(W:aa fr 12= .fn 96 [] [.ptr .S 1 1 0,.ptr .S 10 1 0,.ptr .S 0 1 0])(X:aa fr 42= .i .i64 0)(Y:Cr sh N H eE 2 J.1 J.2):
  Lp pE 82 AH fr lh sh (.ext 2) fun f l s=>l=lh∧aE s 10=⟨1,.cells [.i .i64 (Mz N H aH nx 5 J).2] 0 true⟩:=by
 refine bV ZK (fun k f l s=>aa f 42= .i .i64 (k:Int)∧l=lh∧ ∃(p:(Nat→Nat→Int)×Int) (U:Nat),Cr s N H eE U p.1 p.2∧Mz N H aH nx (5-k) p=Mz N H aH nx 5 J) 5 ⟨X,rfl,J,2,Y,rfl⟩ ?_ ?_
 ·rintro k f _ s hk F ⟨r,rfl,p,U,⟨g0,g1,gB,gT,gR,b1,b2,b3⟩,V⟩
  have aN:(k:Int)<5:=zO
  have hw:wr .i64 ((k:Int)+1)=((k+1:Nat):Int):=by rw[bo zO];omega
  have Gw:wr .i64 ((H:Int)+1)=((H+1:Nat):Int):=by rw[bo zO];omega
  have e1:=azf N hN s
  generalize O:s.length=rb at*
  have A8:(s++List.replicate 7 (ah.mk 1 (.cells (db N fun _=>0) 0 false))).length=rb+7:=by rw[List.length_append,O,List.length_replicate]
  generalize qI:s++List.replicate 7 (ah.mk 1 (.cells (db N fun _=>0) 0 false))=s1 at*
  have gn: ∀lh,Ev.stV lh (aK s1 (rb+7) ⟨1,.cells [.nilsl,.nilsl,.nilsl,.nilsl,.nilsl,.nilsl,.nilsl] 0 true⟩) (.ptr .S (rb+7) 1 0) (.agg (tP rb N)) 7=some (lh,aK (aK s1 (rb+7) ⟨1,.cells [.nilsl,.nilsl,.nilsl,.nilsl,.nilsl,.nilsl,.nilsl] 0 true⟩) (rb+7) ⟨1,.cells (tP rb N) 0 true⟩):=fun lh=>ano (by rw[dS,if_pos rfl]) rfl rb N
  have gs: ∀j,j≠rb+7→aE (aK (aK s1 (rb+7) ⟨1,.cells [.nilsl,.nilsl,.nilsl,.nilsl,.nilsl,.nilsl,.nilsl] 0 true⟩) (rb+7) ⟨1,.cells (tP rb N) 0 true⟩) j=aE s1 j:=fun j Z=>by rw[dS,if_neg Z,dS,if_neg Z]
  have gA:aE (aK (aK s1 (rb+7) ⟨1,.cells [.nilsl,.nilsl,.nilsl,.nilsl,.nilsl,.nilsl,.nilsl] 0 true⟩) (rb+7) ⟨1,.cells (tP rb N) 0 true⟩) (rb+7)=⟨1,.cells (tP rb N) 0 true⟩:=by rw[dS,if_pos rfl]
  have l2:(aK (aK s1 (rb+7) ⟨1,.cells [.nilsl,.nilsl,.nilsl,.nilsl,.nilsl,.nilsl,.nilsl] 0 true⟩) (rb+7) ⟨1,.cells (tP rb N) 0 true⟩).length=rb+8:=by
   rw[bU _ _ _ (by rw[←A8,mw,List.length_append];simp),←A8,mw,List.length_append,A8];rfl
  generalize aK (aK s1 (rb+7) ⟨1,.cells [.nilsl,.nilsl,.nilsl,.nilsl,.nilsl,.nilsl,.nilsl] 0 true⟩) (rb+7) ⟨1,.cells (tP rb N) 0 true⟩=s2 at*
  have I: ∀j,j<rb→aE s2 j=aE s j:=fun j Z=>by rw[gs j zO,←qI,oH zO]
  have gr: ∀i,i<7→aE s2 (rb+i)=⟨1,.cells (db N fun _=>0) 0 false⟩:=fun i hi=>by rw[gs _ zO,←qI,←O,oI,J1 hi]
  have k0:aE s2 0=⟨1,.cells [.i .i64 (H:Int)] 0 true⟩:=(I 0 zO).trans g0
  simp(maxDischargeDepth:=6) only[qA,eh,seval,AH,F,h5,h7,r,aN,e1,auY,A8,gn,Gw,k0]
  generalize hD:DC pE 82 (.loop AG) _=D
  obtain⟨f2,l2',s3,rfl,⟨rfl,hC3,hl3,eD⟩,iH⟩:=sZ ZI hD (cd3 N H rb (rb+7) 10 U 9 eE nT aH nx eK fO hH hN ⟨by omega,by omega,by omega,by omega,by omega,by omega⟩ p.1 (fun _ _=>0) p.2 (fun h hh=>by omega) zO _ _ _ (by simp only[qA,seval,F,h9]) (by simp only[qA,seval,F,K]) (by simp only[qA,seval,F,W]) wL wL wL ((I 9 zO).trans gB) (fun h hh=>(I _ zO).trans (gR h hh)) ⟨k0,(I 1 zO).trans g1,gA,(I 10 zO).trans gT,gr,by omega,by omega⟩)
  have f14:aa f2 14= .ptr .S (rb+7) 1 0:=by rw[iH 14 yv];simp only[qA,seval]
  have f10:aa f2 10= .ptr .S 9 1 0:=by rw[iH 10 yv];simp only[qA,seval,F,K]
  have f42:aa f2 42= .i .i64 (k:Int):=by rw[iH 42 yv];simp only[qA,seval,r]
  obtain⟨c0,c1,cA,cT,cR,cb1,cb2⟩:=hC3
  have sC: ∀lh,Ev.stV lh s3 (.ptr .S 9 1 0) (.agg (tP rb N)) 7=some (lh,aK s3 9 ⟨1,.cells (tP rb N) 0 true⟩):=fun lh=>ano ((eD 9 zO zO).trans ((I 9 zO).trans gB)) rfl rb N
  have r1:0+7≤(tP rb N).length:=Nat.le_refl _
  have r2:(tP rb N).take 7=tP rb N:=rfl
  rw[show 5-k=(4-k)+1 by omega,Mz]at V
  simp(maxDischargeDepth:=6) only[qA,seval,gd,f14,f10,f42,cA,r1,r2,sC,hw]
  have l4:(aK s3 9 ⟨1,.cells (tP rb N) 0 true⟩).length=rb+8:=by rw[bU _ _ _ zO];omega
  exact⟨_,rb,⟨by rw[dS,if_neg zO];exact c0,by rw[dS,if_neg zO];exact c1,by rw[dS,if_pos rfl],by rw[dS,if_neg zO];exact cT,fun i hi=>by rw[dS,if_neg zO];exact cR i hi,by omega,by omega,by omega⟩,V⟩
 ·rintro f _ s F ⟨r,rfl,p,U,Y,V⟩
  simp only[qA,seval,gd,AH,r,Int.lt_irrefl]
  exact V▸Y.gT
end
def jn(c:Ct)(l:List Fl)(i j:Nat):Bool:=match l[i]?,l[j]? with
 |some x,some y=>Mf c x y
 |_,_=>false
theorem ajr{c:Ct}{l:List Fl}{i j:Nat}(hi:i<l.length)(r:j<l.length):jn c l i j=Mf c l[i] l[j]:=by
 unfold jn;rw[List.getElem?_eq_getElem hi,List.getElem?_eq_getElem r]
def CS(D:List ah)(r:List Nat)(c:T)(s:List ah):Prop:=(r= []∧c= .nilsl∧s=D)∨(r≠ []∧ ∃g,c= .isl .S D.length g 0 r.length 1∧s=D++ [⟨g,.cells (ints (r.map Int.ofNat)) 0 false⟩])
theorem GO(J:Nat→Bool)(k:Nat):(List.range (k+1)).filter J=if J k then(List.range k).filter J++ [k]else(List.range k).filter J:=by
 rw[List.range_succ,List.filter_append]
 by_cases h:J k=true <;> simp[h]
theorem xu(J:Nat→Bool)(k:Nat):((List.range k).filter J).length≤k:=by
 have:=List.length_filter_le J (List.range k)
 rwa [List.length_range]at this
theorem Se{a:List ah}{x e:ah}:aK (a++ [x]) a.length e=a++ [e]:=by
 induction a with
 |nil=>rfl
 |cons y r ih=>rw[List.cons_append,List.length_cons,og,ih];rfl
section
variable(zT aT fT a7 a8 a9 a10 aw av:T)(c:Ct)(lN fc:List T)(l:List Fl)(hf:IsSl fT l.length fc)(hr:aA RB l fc)(hN:l.length≤1000)
include hf hr hN
theorem pc1(i:Nat)(hi:i<l.length)(Qh:List T)(U:Qh.length=l.length)(V:Qh.drop i= .nilsl::Qh.drop (i+1))(D:List ah)(fr:Fr)(lh:aB ah)(h0:aa fr 0= .vp (zT::aT::fT::(aR c a7 a8 a9 a10 aw av++lN)))(h3:aa fr 3= .isl .L 12 1 0 l.length 1)(h4:aa fr 4= .i .i64 (i:Int))(K:aa fr 19= .i .i64 (l.length:Int))(W:aa fr 20= .i .i64 0)(X:ab lh 12=⟨1,.cells Qh 0 true⟩):
  Lp pE 40 tc fr lh D (.ext 2) fun f F s=> ∃v,ab F 12=⟨1,.cells (Qh.set i v) 0 true⟩∧CS D (dM l.length (jn c l) i) v s:=by
 refine bV ZL (fun k f F s=>aa f 20= .i .i64 (k:Int)∧ ∃v,ab F 12=⟨1,.cells (Qh.set i v) 0 true⟩∧CS D ((List.range k).filter fun j=>jn c l i j) v s) l.length ⟨W,.nilsl,by
  rw[X]
  refine congrArg (fun c=>ah.mk 1 (.cells c 0 true)) ?_
  refine List.ext_getElem xv fun j h1 h2=> ?_
  rw[List.getElem_set]
  by_cases e:i=j
  ·subst e
   rw[if_pos rfl]
   have:=congrArg (fun l=>l[0]?) V
   simpa[h1]using this
  ·rw[if_neg e],.inl ⟨rfl,rfl,rfl⟩⟩ ?_ ?_
 ·rintro k f F s hk I ⟨ZM,v,o,O⟩
  have Dt:i+1≤l.length:=hi
  have hg:(Qh.set i v)[i]? =some v:=by rw[List.getElem?_set_self zO]
  have jY:(Qh.set i v).length=l.length:=by rw[List.length_set];exact U
  have J: ∀u,splice (Qh.set i v) i [u]=Qh.set i u:=fun u=>by rw[my _ _ _ zO,List.set_set]
  have r8:8≤roomy:=by unfold roomy;omega
  have Y:(k:Int)<l.length:=zO
  have Z:wr .i64 ((k:Int)+1)=((k+1:Nat):Int):=by rw[bo zO];omega
  have e1:=amK zT aT fT a7 a8 a9 a10 aw av c lN fc l hf hr i k hi hk
  rw[←ajr hi hk]at e1
  rw[GO]
  have aLF:=xu (jn c l i) k
  generalize (List.range k).filter (fun j=>jn c l i j)=r at*
  by_cases hb:jn c l i k=true
  ·rcases O with⟨rfl,rfl,rfl⟩|⟨hr0,g,rfl,rfl⟩
   ·simp(maxDischargeDepth:=6) only[qA,seval,gd,tc,I,h0,h3,h4,K,ZM,Y,Z,e1,hb,akB,hi,Dt,o,hg,jY,J,cF,aP,cw,cX,repl,r8,mw]
    exact⟨_,rfl,.inr ⟨by simp,1,rfl,rfl⟩⟩
   ·have Oe:aE (D++ [(⟨g,.cells (ints (r.map Int.ofNat)) 0 false⟩:ah)]) D.length=⟨g,.cells (ints (r.map Int.ofNat)) 0 false⟩:=by
     have:=oI (a:=D) (b:= [(⟨g,.cells (ints (r.map Int.ofNat)) 0 false⟩:ah)]) (k:=0)
     exact this
    have hse: ∀e,aK (D++ [(⟨g,.cells (ints (r.map Int.ofNat)) 0 false⟩:ah)]) D.length e=D++ [e]:=fun e=>Se
    have A8:r.length*1=(ints (r.map Int.ofNat)).length:=by rw[cD,List.length_map,Nat.mul_one]
    have r9:(r.length+1)*8≤roomy:=by unfold roomy;omega
    simp(maxDischargeDepth:=6) only[qA,seval,gd,tc,I,h0,h3,h4,K,ZM,Y,Z,e1,hb,akB,hi,Dt,o,hg,jY,J,cF,aP,cW,dR,bZ,repl,Oe,hse,A8,r9]
    exact⟨_,rfl,.inr ⟨by simp,g+1,by simp,by simp[ints]⟩⟩
  ·simp(maxDischargeDepth:=6) only[qA,seval,gd,tc,I,h0,h4,K,ZM,Y,Z,e1,hb,akB,o]
   exact⟨v,rfl,O⟩
 ·rintro f F s I ⟨ZM,v,o,O⟩
  simp only[qA,seval,gd,tc,I,K,ZM,Int.lt_irrefl]
  exact⟨v,o,O⟩
def CO(s:List ah)(v:T)(r:List Nat):Prop:=(r= []∧v= .nilsl)∨r≠ []∧ ∃k g,v= .isl .S k g 0 r.length 1∧k<s.length∧aE s k=⟨g,.cells (ints (r.map Int.ofNat)) 0 false⟩
omit hf hr hN in
theorem CO.mono{s:List ah}{v:T}{r:List Nat}(h:CO s v r)(x:List ah):CO (s++x) v r:=by
 rcases h with h|⟨h0,k,g,h1,h2,h3⟩
 ·exact .inl h
 ·exact .inr ⟨h0,k,g,h1,by rw[List.length_append];omega,by rw[oH h2];exact h3⟩
def Sf(s:List ah):List T→List (List Nat)→Prop
 | [],[]=>True
 |v::D,r::rs=>CO s v r∧Sf s D rs
 |_,_=>False
omit hf hr hN in
theorem Sf.mono{s:List ah}(x:List ah): ∀{r:List T} {rs:List (List Nat)},Sf s r rs→Sf (s++x) r rs
 | [],[],_=>trivial
 |_::_,_::_,h=>⟨h.1.mono x,h.2.mono x⟩
omit hf hr hN in
theorem Sf.snoc{s:List ah}{v:T}{r:List Nat}(h:CO s v r): ∀{D:List T} {rs:List (List Nat)},Sf s D rs→Sf s (D++ [v]) (rs++ [r])
 | [],[],_=>⟨h,trivial⟩
 |_::_,_::_,g=>⟨g.1,g.2.snoc h⟩
omit hf hr hN in
theorem Sf.len{s:List ah}: ∀{r:List T} {rs:List (List Nat)},Sf s r rs→r.length=rs.length
 | [],[],_=>rfl
 |_::_,_::_,g=>by rw[List.length_cons,List.length_cons,g.2.len]
def kS(r:List Nat):T:=if r= []then .nilsl else .sl (ints (r.map Int.ofNat)) r.length false
omit hf hr hN in
theorem CO.fz{s:List ah}{v:T}{r:List Nat}{lh:aB ah}{m:Nat}(h:CO s v r): ∃us,(fz false (m+1) v).run (St.mk .nil lh s).get s.length=some (kS r,us):=by
 rcases h with⟨rfl,rfl⟩|⟨h0,k,g,rfl,h2,h3⟩
 ·exact⟨_,rfl⟩
 ·unfold Ev.fz
  have Oe:(St.mk .nil lh s).get .S k=aE s k:=rfl
  simp only[Bool.false_and,Bool.false_eq_true,if_false,Q.run,Oe,h3,if_true]
  have e1:(ints (r.map Int.ofNat)).length=r.length:=by rw[cD,List.length_map]
  rw[if_pos zO]
  refine⟨_,congrArg some (Prod.ext ?_ rfl)⟩
  show T.sl _ _ _=_
  rw[List.drop_zero,Nat.mul_one,List.take_of_length_le zO]
  unfold kS
  rw[if_neg h0]
omit hf hr hN in
theorem Sf.fz{s:List ah}{lh:aB ah}{m:Nat}: ∀{D:List T} {rs:List (List Nat)},Sf s D rs→ ∃us,(bn (Ev.fz false (m+1)) D).run (St.mk .nil lh s).get s.length=some (rs.map kS,us)
 | [],[],_=>⟨_,rfl⟩
 |v::D,r::rs,h=>by
  obtain⟨F,e1⟩:=h.1.fz (lh:=lh) (m:=m)
  obtain⟨I,e2⟩:=h.2.fz (lh:=lh) (m:=m)
  simp only[bn,bq,e1,e2,Option.bind_some,Q.run,List.map_cons]
  exact⟨_,rfl⟩
theorem pc2(fr:Fr)(lh:aB ah)(h0:aa fr 0= .vp (zT::aT::fT::(aR c a7 a8 a9 a10 aw av++lN)))(h3:aa fr 3= .isl .L 12 1 0 l.length 1)(W:aa fr 14= .i .i64 (l.length:Int))(Y:aa fr 15= .i .i64 0)(O:ab lh 12=⟨1,.cells (List.replicate l.length .nilsl) 0 true⟩):
  Lp pE 40 AJ fr lh [] (.ext 0) fun f I s=> ∃r,ab I 12=⟨1,.cells r 0 true⟩∧Sf s r ((List.range l.length).map (dM l.length (jn c l))):=by
 refine bV ZN (fun k f I s=>aa f 15= .i .i64 (k:Int)∧ ∃r,ab I 12=⟨1,.cells (r++List.replicate (l.length-k) .nilsl) 0 true⟩∧Sf s r ((List.range k).map (dM l.length (jn c l)))) l.length ⟨Y,[],by rw[O];rfl,trivial⟩ ?_ ?_
 ·rintro k f I s hk J ⟨F,r,o,K⟩
  have Z:(k:Int)<l.length:=zO
  have hw:wr .i64 ((k:Int)+1)=((k+1:Nat):Int):=by rw[bo zO];omega
  have X:=K.len
  rw[List.length_map,List.length_range]at X
  have dm:lenI (T.isl .L 12 1 0 l.length 1)=some (.i .i64 (l.length:Int)):=rfl
  have ee:(r++List.replicate (l.length-k) T.nilsl).length=l.length:=by rw[List.length_append,List.length_replicate];omega
  have U:(r++List.replicate (l.length-k) T.nilsl).drop k= .nilsl::(r++List.replicate (l.length-k) T.nilsl).drop (k+1):=by
   rw[show k=r.length from X.symm,List.drop_left,show r.length+1=r.length+1 from rfl,List.drop_append,List.drop_of_length_le zO,List.nil_append,show l.length-r.length=(l.length-r.length-1)+1 by omega,List.replicate_succ,show r.length+1-r.length=1 by omega]
   rfl
  simp(maxDischargeDepth:=6) only[qA,seval,AJ,J,h3,W,F,Z,dm]
  generalize hD:DC pE 40 (.loop tc) _=D
  obtain⟨f2,l2,s2,rfl,⟨v,o2,hS⟩,iH⟩:=sZ ZL hD (pc1 zT aT fT a7 a8 a9 a10 aw av c lN fc l hf hr hN k hk (r++List.replicate (l.length-k) .nilsl) ee U s _ _ (by simp only[qA,seval,J,h0]) (by simp only[qA,seval,J,h3]) wL wL wL o)
  have V:aa f2 15= .i .i64 (k:Int):=by rw[iH 15 yv];simp only[qA,seval,F]
  simp(maxDischargeDepth:=6) only[qA,seval,gd,V,hw]
  refine⟨r++ [v], ?_, ?_⟩
  ·rw[o2]
   refine congrArg (fun c=>ah.mk 1 (.cells c 0 true)) ?_
   rw[List.set_append,if_neg zO,show k-r.length=0 by omega,show l.length-k=(l.length-(k+1))+1 by omega,List.replicate_succ,List.set_cons_zero,List.append_assoc]
   rfl
  ·rw[List.range_succ,List.map_append]
   rcases hS with⟨h1,rfl,rfl⟩|⟨h1,g,rfl,rfl⟩
   ·exact K.snoc (.inl ⟨h1,rfl⟩)
   ·exact(K.mono _).snoc (.inr ⟨h1,_,g,rfl,by simp,oI (k:=0)⟩)
 ·rintro f I s J ⟨F,r,o,K⟩
  simp only[qA,seval,gd,AJ,J,W,F,Int.lt_irrefl]
  rw[Nat.sub_self,List.replicate_zero,List.append_nil]at o
  exact⟨r,o,K⟩
def HJ(N:Nat)(J:Nat→Nat→Bool):T:= .sl (((List.range N).map (dM N J)).map kS) N false
theorem Cq: ∃s,ae pE 57 [.vp (zT::aT::fT::(aR c a7 a8 a9 a10 aw av++lN))] []=some (HJ l.length (jn c l),s):=by
 have K:l.length*24≤roomy:=by unfold roomy;omega
 have O:l.length≤roomy:=by unfold roomy;omega
 have U:=hf.lenI
 have V:repl [T.nilsl] l.length=List.replicate l.length .nilsl:=by
  generalize l.length=n
  induction n with
  |zero=>rfl
  |succ n ih=>rw[repl,ih,List.replicate_succ];rfl
 have r:lenI (T.isl .L 12 1 0 l.length 1)=some (.i .i64 (l.length:Int)):=rfl
 rw[an acm (by simp[c57])]
 simp(maxDischargeDepth:=6) only[qA,seval,c57,U,r,V,K,O]
 generalize W:DC pE 40 (.loop AJ) _=D
 obtain⟨X,I,s2,rfl,⟨vs,Y,J⟩,Z⟩:=sZ ZN W (pc2 zT aT fT a7 a8 a9 a10 aw av c lN fc l hf hr hN _ _ wL wL wL wL wL)
 have f3:aa X 3= .isl .L 12 1 0 l.length 1:=by rw[Z 3 yv];simp only[qA,seval]
 have qv:=J.len
 rw[List.length_map,List.length_range]at qv
 obtain⟨us,e⟩:=J.fz (lh:=I) (m:=6)
 have F: ∃us,fzV I s2 false (.isl .L 12 1 0 l.length 1)=some (HJ l.length (jn c l),us):=by
  rw[FR,Y]
  unfold Qx;dsimp only
  rw[if_pos ⟨rfl,by omega⟩,List.drop_zero,Nat.mul_one,List.take_of_length_le zO,e]
  exact⟨_,rfl⟩
 obtain⟨us2,e2⟩:=F
 simp(maxDischargeDepth:=6) only[qA,seval,f3,e2]
 exact⟨_,rfl⟩
end
end Go.Proofs.YtcpceiclnbmgiaaGreat
