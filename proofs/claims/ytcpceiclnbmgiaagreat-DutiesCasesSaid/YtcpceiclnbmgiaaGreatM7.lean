/- Walks of functions of the program and of the reference, and their plain laws, part 7. Conditions: the theorems' own. -/
import Derived.Test.YtcpceiclnbmgiaaGreatGS
import Derived.Test.YtcpceiclnbmgiaaGreatM1
import Derived.Test.YtcpceiclnbmgiaaGreatM5
import Derived.Test.YtcpceiclnbmgiaaGreatM6
import Derived.KernelRfl
set_option maxRecDepth 100000
set_option linter.unusedSimpArgs false
set_option linter.unusedVariables false
set_option maxHeartbeats 16000000
namespace Go.Proofs.YtcpceiclnbmgiaaGreat
open Go Go.Ev
def eu(ns:List (List Nat))(i:Nat):List (List Nat×Nat):=(ns.take i).zipIdx
theorem abd{ns:List (List Nat)}{i:Nat}(hi:i<ns.length):eu ns (i+1)=eu ns i++ [(ns[i],i)]:=by
 unfold eu
 rw[List.take_succ_eq_append_getElem hi,List.zipIdx_append]
 simp[List.length_take,Nat.min_eq_left (Nat.le_of_lt hi)]
theorem abe{ns:List (List Nat)}(D:ns.Nodup){i:Nat}(hi:i<ns.length):aU (eu ns i) ns[i]=none:=by
 have F: ∀(m:List (List Nat×Nat)) (s:List Nat),(∀p∈m,p.1≠s)→aU m s=none:=by
  intro m s h
  induction m with
  |nil=>rfl
  |cons p m ih=>
   rw[aU,if_neg (fun e=>h p (List.mem_cons_self ..) e.symm)]
   exact ih fun q I=>h q (List.mem_cons_of_mem _ I)
 refine F _ _ fun p J e=> ?_
 have H:p.1∈ns.take i:=List.fst_mem_of_mem_zipIdx J
 rw[e]at H
 obtain⟨j,K,r⟩:=List.getElem_of_mem H
 rw[List.length_take]at K
 rw[List.getElem_take]at r
 exact List.pairwise_iff_getElem.1 D j i zO hi zO r
def kU(lT:T)(m:List (List Nat×Nat))(kn:List (Nat×Int))(c0 c1 c2 c3:T)(ms:List (List (List Nat×Nat))):List ah:=
 ⟨1,.map (m.map fun p=>sK p.1) (m.map fun p=>nK p.2) false⟩::⟨1,.map (kn.map fun p=>nK p.1) (kn.map fun p=>iV p.2) false⟩::⟨1,.cells [lT,.mp .S 0 1,.mp .S 1 1,c0,c1,c2,c3] 0 true⟩::ms.map fun p=>⟨1,.map (p.map fun p=>sK p.1) (p.map fun p=>nK p.2) false⟩
section
variable(lT:T)(m:List (List Nat×Nat))(kn:List (Nat×Int))(c0 c1 c2 c3:T)(ms:List (List (List Nat×Nat)))
theorem cp0:aE (kU lT m kn c0 c1 c2 c3 ms) 0=⟨1,.map (m.map fun p=>sK p.1) (m.map fun p=>nK p.2) false⟩:=nr rfl
theorem cp2:aE (kU lT m kn c0 c1 c2 c3 ms) 2=⟨1,.cells [lT,.mp .S 0 1,.mp .S 1 1,c0,c1,c2,c3] 0 true⟩:=nr rfl
theorem aHX(r:List (List Nat×Nat)):aK (kU lT m kn c0 c1 c2 c3 ms) 0 ⟨1,.map (r.map fun p=>sK p.1) (r.map fun p=>nK p.2) false⟩=kU lT r kn c0 c1 c2 c3 ms:=nr rfl
theorem agx(r D F H:T):aK (kU lT m kn c0 c1 c2 c3 ms) 2 ⟨1,.cells [lT,.mp .S 0 1,.mp .S 1 1,r,D,F,H] 0 true⟩=kU lT m kn r D F H ms:=nr rfl
theorem az9:kU lT [] [] .nilmp .nilmp .nilmp .nilmp []= [⟨1,.map [] [] false⟩,⟨1,.map [] [] false⟩,⟨1,.cells [lT,.mp .S 0 1,.mp .S 1 1,.nilmp,.nilmp,.nilmp,.nilmp] 0 true⟩]:=nr rfl
end
section
variable(l:Cs)(lT:T)(cl:List T)(hl:IsSl lT l.length cl)(ee:dx l cl)(hlen:l.length≤kP)
include hl ee hlen
theorem aHY(fr:Fr)(lh:aB ah)(sh:List ah)(V:sh=kU lT [] [] .nilmp .nilmp .nilmp .nilmp [])
  (h3:aa fr 3= .ptr .S 2 1 0) (F:aa fr 16=lT) (D:aa fr 17= .i .i64 (l.length:Int)) (H:aa fr 18= .i .i64 0):
  mI 71 wq fr lh sh (.ext 0)∧
  (iF pE 71 wq fr lh sh=kU lT (bM l l.length) [] .nilmp .nilmp .nilmp .nilmp []):=by
 refine bF (P:=fun Y Z W=>W=kU lT (bM l l.length) [] .nilmp .nilmp .nilmp .nilmp [])
  (cu (fun k st=> ∃(fr:Fr) (J:aB ah),st=⟨fr,J,kU lT (bM l k) [] .nilmp .nilmp .nilmp .nilmp []⟩∧aa fr 3= .ptr .S 2 1 0∧aa fr 16=lT∧aa fr 17= .i .i64 (l.length:Int)∧aa fr 18= .i .i64 (k:Int)) _ l.length ?_ ?_ 0 _ (Nat.zero_le _) ⟨fr,lh,by rw[V];rfl,h3,F,D,H⟩)
 ·rintro k _ hk ⟨fr,J,rfl,h3,F,D,H⟩
  left
  have N:(k:Int)<l.length:=zO
  have O:=bj (k:=k) zO
  obtain⟨b,cb,r,U,fD,nN,hb⟩:=ga hl ee k hk
  have I:=lkS (bM l k) l[k].1
  rw[xF l hk]
  cases K:aU (bM l k) l[k].1 with
  |some i=>
   rw[K]at I
   unfold Tc at I
   simp only[qA,seval,bp,aJ,dL,wq,h3,F,D,H,N,U,O,cp2,cp0,cq,I]
   refine⟨_,rfl,_,_,rfl, ?_, ?_, ?_, ?_⟩ <;> simp only[qA,seval,h3,F,D]
  |none=>
   rw[K]at I
   unfold Tc at I
   have X:lU (.one .str) (.s l[k].1) (.i .i64 (k:Int)) ((bM l k).map fun p=>sK p.1) ((bM l k).map fun p=>nK p.2)=_:=u9 (kT:=sK) (vT:=nK) Dj (bM l k) l[k].1 k K
   simp only[qA,seval,bp,aJ,dL,wq,h3,F,D,H,N,U,O,cp2,cp0,cq,I,yj,X,aHX]
   refine⟨_,rfl,_,_,rfl, ?_, ?_, ?_, ?_⟩ <;> simp only[qA,seval,h3,F,D]
 ·rintro _ ⟨fr,J,rfl,h3,F,D,H⟩
  simp only[qA,seval,wq,D,H,Int.lt_irrefl]
  exact⟨_,_,k9,rfl,rfl,rfl⟩
end
def S6(scope:Int):List (List Nat):=if scope=1 then bG else if scope=2 then eM else if scope=3 then kO else []
theorem aHZ:ae pE 93 [.i .i64 1] []=some (.sl (strs bG) 11 true,[]):=dj (m:=100) (dh (by kernel_rfl))
theorem aH0:ae pE 93 [.i .i64 2] []=some (.sl (strs eM) 25 false,[]):=dj (m:=100) (dh (by kernel_rfl))
theorem aH1:ae pE 93 [.i .i64 3] []=some (.sl (strs kO) 7 true,[]):=dj (m:=100) (dh (by kernel_rfl))
theorem aH2:ae pE 93 [.i .i64 0] []=some (.nilsl,[]):=dj (m:=100) (dh (by kernel_rfl))
theorem JV:bG.Nodup:=by decide+kernel
theorem abf:eM.Nodup:=by decide+kernel
theorem abg:kO.Nodup:=by decide+kernel
theorem EU{α:Type}(d:α): ∀(l:List α) (x:α),nH d l l.length x=l++ [x]
 | [],x=>rfl
 |a::l,x=>by rw[List.length_cons,nH,EU d l x];rfl
theorem KF{α:Type}(d:α): ∀(l:List α) (x y:α),nH d (l++ [x]) l.length y=l++ [y]
 | [],x,y=>rfl
 |a::l,x,y=>by rw[List.cons_append,List.length_cons,nH,KF d l x y];rfl
section
variable(lT:T)(m:List (List Nat×Nat))(kn:List (Nat×Int))(c0 c1 c2 c3:T)(ms:List (List (List Nat×Nat)))
theorem cpL:(kU lT m kn c0 c1 c2 c3 ms).length=ms.length+3:=by unfold kU;simp
theorem cpA:aK (kU lT m kn c0 c1 c2 c3 ms) (ms.length+3) ⟨1,.map [] [] false⟩=kU lT m kn c0 c1 c2 c3 (ms++ [[]]):=by
 grind [kU,aK,nH,List.length_map,EU]
theorem cpq(p:List (List Nat×Nat)):aE (kU lT m kn c0 c1 c2 c3 (ms++ [p])) (ms.length+3)=⟨1,.map (p.map fun p=>sK p.1) (p.map fun p=>nK p.2) false⟩:=by
 grind [kU,aE,aJ,List.length_map,rV]
theorem aH3(p q:List (List Nat×Nat)):aK (kU lT m kn c0 c1 c2 c3 (ms++ [p])) (ms.length+3) ⟨1,.map (q.map fun p=>sK p.1) (q.map fun p=>nK p.2) false⟩=kU lT m kn c0 c1 c2 c3 (ms++ [q]):=by
 grind [kU,aK,nH,List.length_map,KF]
theorem Hr(D:Nat)(hc:(D=0∧c0= .mp .S (ms.length+3) 1)∨(D=1∧c1= .mp .S (ms.length+3) 1)∨(D=2∧c2= .mp .S (ms.length+3) 1)∨(D=3∧c3= .mp .S (ms.length+3) 1))(ns:List (List Nat))(J:ns.Nodup)(Z:ns.length≤100)(v:T)(N:IsSl v ns.length (strs ns))(fr:Fr)(lh:aB ah)(sh:List ah)(O:sh=kU lT m kn c0 c1 c2 c3 (ms++ [[]]))
  (h3:aa fr 3= .ptr .S 2 1 0) (H:aa fr 8= .i .i64 (D:Int)) (I:aa fr 53=v) (F:aa fr 54= .i .i64 (ns.length:Int)) (r:aa fr 55= .i .i64 0):
  mI 71 AE fr lh sh (.ext 4)∧
  (iF pE 71 AE fr lh sh=kU lT m kn c0 c1 c2 c3 (ms++ [eu ns ns.length])):=by
 refine bF (P:=fun bE aZ U=>U=kU lT m kn c0 c1 c2 c3 (ms++ [eu ns ns.length]))
  (cu (fun k st=> ∃(fr:Fr) (K:aB ah),st=⟨fr,K,kU lT m kn c0 c1 c2 c3 (ms++ [eu ns k])⟩∧aa fr 3= .ptr .S 2 1 0∧aa fr 8= .i .i64 (D:Int)∧aa fr 53=v∧aa fr 54= .i .i64 (ns.length:Int)∧aa fr 55= .i .i64 (k:Int)) _ ns.length ?_ ?_ 0 _ (Nat.zero_le _) ⟨fr,lh,by rw[O];rfl,h3,H,I,F,r⟩)
 ·rintro k _ hk ⟨fr,K,rfl,h3,H,I,F,r⟩
  left
  have V:(k:Int)<ns.length:=zO
  have W:=aI (k:=k) zO
  have X: ∀kk,dV v (.i kk (k:Int)) 1=some (.vp (T.s ns[k]::(strs ns).drop (k+1))):=fun kk=>by rw[N.ia (sz:=1) (by rw[BN];omega) hk,Nat.mul_one,D7 ns k hk]
  have Y:lU (.one .str) (.s ns[k]) (.i .i64 (k:Int)) ((eu ns k).map fun p=>sK p.1) ((eu ns k).map fun p=>nK p.2)=_:=u9 (kT:=sK) (vT:=nK) Dj (eu ns k) ns[k] k (abe J hk)
  rw[abd hk]
  rcases hc with⟨rfl,hc⟩|⟨rfl,hc⟩|⟨rfl,hc⟩|⟨rfl,hc⟩ <;>
  (simp only[qA,seval,eJ,dL,AE,h3,H,I,F,r,V,X,W,cp2,hc,cpq,yj,Y,aH3]
   refine⟨_,rfl,_,_,rfl, ?_, ?_, ?_, ?_, ?_⟩ <;> simp only[qA,seval,h3,H,I,F])
 ·rintro _ ⟨fr,K,rfl,h3,H,I,F,r⟩
  simp only[qA,seval,AE,F,r,Int.lt_irrefl]
  grind
end
def Gv(lT:T)(m:List (List Nat×Nat))(kn:List (Nat×Int)):Nat→List ah
 |0=>kU lT m kn .nilmp .nilmp .nilmp .nilmp []
 |1=>kU lT m kn (.mp .S 3 1) .nilmp .nilmp .nilmp [eu [] 0]
 |2=>kU lT m kn (.mp .S 3 1) (.mp .S 4 1) .nilmp .nilmp [eu [] 0,eu bG 11]
 |3=>kU lT m kn (.mp .S 3 1) (.mp .S 4 1) (.mp .S 5 1) .nilmp [eu [] 0,eu bG 11,eu eM 25]
 |_=>kU lT m kn (.mp .S 3 1) (.mp .S 4 1) (.mp .S 5 1) (.mp .S 6 1) [eu [] 0,eu bG 11,eu eM 25,eu kO 7]
theorem aoC(lT:T)(m:List (List Nat×Nat))(kn:List (Nat×Int))(fr:Fr)(lh:aB ah)(h3:aa fr 3= .ptr .S 2 1 0)(KV:aa fr 43= .i .i64 0):
  ∃r F,DC pE 71 kZ ⟨fr,lh,Gv lT m kn 0⟩=some (.nrm,⟨r,F,Gv lT m kn 1⟩)∧aa r 3= .ptr .S 2 1 0∧aa r 43= .i .i64 1:=by
 have H:aK (kU lT m kn .nilmp .nilmp .nilmp .nilmp []) 3 ⟨1,.map [] [] false⟩=kU lT m kn .nilmp .nilmp .nilmp .nilmp [[]]:=cpA lT m kn .nilmp .nilmp .nilmp .nilmp []
 have jY:(kU lT m kn .nilmp .nilmp .nilmp .nilmp []).length=3:=cpL lT m kn .nilmp .nilmp .nilmp .nilmp []
 have D:=fun fr lh sh h1 h2 h3 h4 h5 h6=>Hr lT m kn (.mp .S 3 1) .nilmp .nilmp .nilmp [] 0 xv [] List.nodup_nil yv .nilsl (Or.inl ⟨rfl,rfl,rfl⟩) fr lh sh h1 h2 h3 h4 h5 h6
 change ∀fr lh sh,sh=kU lT m kn (.mp .S 3 1) .nilmp .nilmp .nilmp [[]]→aa fr 3= .ptr .S 2 1 0→aa fr 8= .i .i64 0→aa fr 53= .nilsl→aa fr 54= .i .i64 0→aa fr 55= .i .i64 0→_ at D
 have I:=fun lh=>iL (lh:=lh) (sh:=kU lT m kn .nilmp .nilmp .nilmp .nilmp [[]]) (k:=2) (g:=1) (off:=3) (m:=1) (v:= .mp .S 3 1) uY (cp2 lT m kn .nilmp .nilmp .nilmp .nilmp [[]])
 unfold Gv
 simp only[qA,seval,eJ,eh,kZ,mB,h3,KV,jY,H,I,agx,aH2,acr,D]
 first|done|refine⟨_,_,rfl, ?_, ?_⟩ <;> simp only[qA,seval,h3,mB]
theorem aoD(lT:T)(m:List (List Nat×Nat))(kn:List (Nat×Int))(fr:Fr)(lh:aB ah)(h3:aa fr 3= .ptr .S 2 1 0)(KV:aa fr 43= .i .i64 1):
  ∃r F,DC pE 71 kZ ⟨fr,lh,Gv lT m kn 1⟩=some (.nrm,⟨r,F,Gv lT m kn 2⟩)∧aa r 3= .ptr .S 2 1 0∧aa r 43= .i .i64 2:=by
 have H:aK (kU lT m kn (.mp .S 3 1) .nilmp .nilmp .nilmp [eu [] 0]) 4 ⟨1,.map [] [] false⟩=kU lT m kn (.mp .S 3 1) .nilmp .nilmp .nilmp [eu [] 0,[]]:=cpA lT m kn (.mp .S 3 1) .nilmp .nilmp .nilmp [eu [] 0]
 have jY:(kU lT m kn (.mp .S 3 1) .nilmp .nilmp .nilmp [eu [] 0]).length=4:=cpL lT m kn (.mp .S 3 1) .nilmp .nilmp .nilmp [eu [] 0]
 have D:=fun fr lh sh h1 h2 h3 h4 h5 h6=>Hr lT m kn (.mp .S 3 1) (.mp .S 4 1) .nilmp .nilmp [eu [] 0] 1 xv bG JV yv (.sl (strs bG) 11 true) (Or.inr ⟨true,rfl⟩) fr lh sh h1 h2 h3 h4 h5 h6
 change ∀fr lh sh,sh=kU lT m kn (.mp .S 3 1) (.mp .S 4 1) .nilmp .nilmp [eu [] 0,[]]→aa fr 3= .ptr .S 2 1 0→aa fr 8= .i .i64 1→aa fr 53=(.sl (strs bG) 11 true)→aa fr 54= .i .i64 11→aa fr 55= .i .i64 0→_ at D
 have I:=fun lh=>iL (lh:=lh) (sh:=kU lT m kn (.mp .S 3 1) .nilmp .nilmp .nilmp [eu [] 0,[]]) (k:=2) (g:=1) (off:=4) (m:=1) (v:= .mp .S 4 1) uY (cp2 lT m kn (.mp .S 3 1) .nilmp .nilmp .nilmp [eu [] 0,[]])
 unfold Gv
 simp only[qA,seval,eJ,eh,kZ,mB,h3,KV,jY,H,I,agx,aHZ,acr,D]
 first|done|refine⟨_,_,rfl, ?_, ?_⟩ <;> simp only[qA,seval,h3,mB]
theorem aoE(lT:T)(m:List (List Nat×Nat))(kn:List (Nat×Int))(fr:Fr)(lh:aB ah)(h3:aa fr 3= .ptr .S 2 1 0)(KV:aa fr 43= .i .i64 2):
  ∃r F,DC pE 71 kZ ⟨fr,lh,Gv lT m kn 2⟩=some (.nrm,⟨r,F,Gv lT m kn 3⟩)∧aa r 3= .ptr .S 2 1 0∧aa r 43= .i .i64 3:=by
 have H:aK (kU lT m kn (.mp .S 3 1) (.mp .S 4 1) .nilmp .nilmp [eu [] 0,eu bG 11]) 5 ⟨1,.map [] [] false⟩=kU lT m kn (.mp .S 3 1) (.mp .S 4 1) .nilmp .nilmp [eu [] 0,eu bG 11,[]]:=cpA lT m kn (.mp .S 3 1) (.mp .S 4 1) .nilmp .nilmp [eu [] 0,eu bG 11]
 have jY:(kU lT m kn (.mp .S 3 1) (.mp .S 4 1) .nilmp .nilmp [eu [] 0,eu bG 11]).length=5:=cpL lT m kn (.mp .S 3 1) (.mp .S 4 1) .nilmp .nilmp [eu [] 0,eu bG 11]
 have D:=fun fr lh sh h1 h2 h3 h4 h5 h6=>Hr lT m kn (.mp .S 3 1) (.mp .S 4 1) (.mp .S 5 1) .nilmp [eu [] 0,eu bG 11] 2 xv eM abf yv (.sl (strs eM) 25 false) (Or.inr ⟨false,rfl⟩) fr lh sh h1 h2 h3 h4 h5 h6
 change ∀fr lh sh,sh=kU lT m kn (.mp .S 3 1) (.mp .S 4 1) (.mp .S 5 1) .nilmp [eu [] 0,eu bG 11,[]]→aa fr 3= .ptr .S 2 1 0→aa fr 8= .i .i64 2→aa fr 53=(.sl (strs eM) 25 false)→aa fr 54= .i .i64 25→aa fr 55= .i .i64 0→_ at D
 have I:=fun lh=>iL (lh:=lh) (sh:=kU lT m kn (.mp .S 3 1) (.mp .S 4 1) .nilmp .nilmp [eu [] 0,eu bG 11,[]]) (k:=2) (g:=1) (off:=5) (m:=1) (v:= .mp .S 5 1) uY (cp2 lT m kn (.mp .S 3 1) (.mp .S 4 1) .nilmp .nilmp [eu [] 0,eu bG 11,[]])
 unfold Gv
 simp only[qA,seval,eJ,eh,kZ,mB,h3,KV,jY,H,I,agx,aH0,acr,D]
 first|done|refine⟨_,_,rfl, ?_, ?_⟩ <;> simp only[qA,seval,h3,mB]
theorem aoF(lT:T)(m:List (List Nat×Nat))(kn:List (Nat×Int))(fr:Fr)(lh:aB ah)(h3:aa fr 3= .ptr .S 2 1 0)(KV:aa fr 43= .i .i64 3):
  ∃r F,DC pE 71 kZ ⟨fr,lh,Gv lT m kn 3⟩=some (.nrm,⟨r,F,Gv lT m kn 4⟩)∧aa r 3= .ptr .S 2 1 0∧aa r 43= .i .i64 4:=by
 have H:aK (kU lT m kn (.mp .S 3 1) (.mp .S 4 1) (.mp .S 5 1) .nilmp [eu [] 0,eu bG 11,eu eM 25]) 6 ⟨1,.map [] [] false⟩=kU lT m kn (.mp .S 3 1) (.mp .S 4 1) (.mp .S 5 1) .nilmp [eu [] 0,eu bG 11,eu eM 25,[]]:=cpA lT m kn (.mp .S 3 1) (.mp .S 4 1) (.mp .S 5 1) .nilmp [eu [] 0,eu bG 11,eu eM 25]
 have jY:(kU lT m kn (.mp .S 3 1) (.mp .S 4 1) (.mp .S 5 1) .nilmp [eu [] 0,eu bG 11,eu eM 25]).length=6:=cpL lT m kn (.mp .S 3 1) (.mp .S 4 1) (.mp .S 5 1) .nilmp [eu [] 0,eu bG 11,eu eM 25]
 have D:=fun fr lh sh h1 h2 h3 h4 h5 h6=>Hr lT m kn (.mp .S 3 1) (.mp .S 4 1) (.mp .S 5 1) (.mp .S 6 1) [eu [] 0,eu bG 11,eu eM 25] 3 xv kO abg yv (.sl (strs kO) 7 true) (Or.inr ⟨true,rfl⟩) fr lh sh h1 h2 h3 h4 h5 h6
 change ∀fr lh sh,sh=kU lT m kn (.mp .S 3 1) (.mp .S 4 1) (.mp .S 5 1) (.mp .S 6 1) [eu [] 0,eu bG 11,eu eM 25,[]]→aa fr 3= .ptr .S 2 1 0→aa fr 8= .i .i64 3→aa fr 53=(.sl (strs kO) 7 true)→aa fr 54= .i .i64 7→aa fr 55= .i .i64 0→_ at D
 have I:=fun lh=>iL (lh:=lh) (sh:=kU lT m kn (.mp .S 3 1) (.mp .S 4 1) (.mp .S 5 1) .nilmp [eu [] 0,eu bG 11,eu eM 25,[]]) (k:=2) (g:=1) (off:=6) (m:=1) (v:= .mp .S 6 1) uY (cp2 lT m kn (.mp .S 3 1) (.mp .S 4 1) (.mp .S 5 1) .nilmp [eu [] 0,eu bG 11,eu eM 25,[]])
 unfold Gv
 simp only[qA,seval,eJ,eh,kZ,mB,h3,KV,jY,H,I,agx,aH1,acr,D]
 first|done|refine⟨_,_,rfl, ?_, ?_⟩ <;> simp only[qA,seval,h3,mB]
theorem aH4(lT:T)(m:List (List Nat×Nat))(fr:Fr)(lh:aB ah)(sh:List ah)(I:sh=kU lT m [] .nilmp .nilmp .nilmp .nilmp [])(h3:aa fr 3= .ptr .S 2 1 0)(KV:aa fr 43= .i .i64 0):
  mI 71 kZ fr lh sh (.ext 2)∧
  (iF pE 71 kZ fr lh sh=Gv lT m [] 4):=by
 refine bF (P:=fun D F J=>J=Gv lT m [] 4)
  (cu (fun k st=> ∃(fr:Fr) (H:aB ah),st=⟨fr,H,Gv lT m [] k⟩∧aa fr 3= .ptr .S 2 1 0∧aa fr 43= .i .i64 (k:Int)) _ 4 ?_ ?_ 0 _ (Nat.zero_le _) ⟨fr,lh,by rw[I];rfl,h3,KV⟩)
 ·rintro k _ hk ⟨fr,H,rfl,h3,KV⟩
  left
  have hc:k=0∨k=1∨k=2∨k=3:=zO
  rcases hc with rfl|rfl|rfl|rfl
  ·obtain⟨D,F,h,r,M8⟩:=aoC lT m [] fr H h3 KV
   exact⟨_,h,D,F,rfl,r,M8⟩
  ·obtain⟨D,F,h,r,M8⟩:=aoD lT m [] fr H h3 KV
   exact⟨_,h,D,F,rfl,r,M8⟩
  ·obtain⟨D,F,h,r,M8⟩:=aoE lT m [] fr H h3 KV
   exact⟨_,h,D,F,rfl,r,M8⟩
  ·obtain⟨D,F,h,r,M8⟩:=aoF lT m [] fr H h3 KV
   exact⟨_,h,D,F,rfl,r,M8⟩
 ·rintro _ ⟨fr,H,rfl,h3,KV⟩
  simp only[qA,seval,kZ,KV]
  exact⟨_,_,k9,rfl,rfl,rfl⟩
section
variable(l:Cs)(lT:T)(cl:List T)(hl:IsSl lT l.length cl)(ee:dx l cl)(hlen:l.length≤kP)
include hl ee hlen
theorem amE:ae pE 51 [lT] []=some (.ptr .S 2 1 0,Gv lT (bM l l.length) [] 4):=by
 have r:=fun fr lh sh=>aHY l lT cl hl ee hlen fr lh sh
 have D:=fun fr lh sh=>aH4 lT (bM l l.length) fr lh sh
 rw[az9]at r
 rw[an aul (by simp[c51])]
 simp only[qA,seval,eh,dL,c51,aAa,aAb,hl.lenI,hl.cells,hl.noTup,hl.kept1,r,D]
end
def KQ(scope:Int)(s:List Nat):Option Nat:=aU (eu (S6 scope) (S6 scope).length) s
theorem CQ{s:List Nat}: ∀{m:List (List Nat×Nat)},aU m s=none↔ ∀p∈m,p.1≠s
 | []=>by simp[aU]
 |p::m=>by
  rw[aU]
  by_cases h:s=p.1
  ·grind
  ·rw[if_neg h,CQ (m:=m)]
   grind
theorem agy{ns:List (List Nat)}{s:List Nat}:aU (eu ns ns.length) s=none↔s∉ns:=by
 rw[CQ]
 unfold eu
 rw[List.take_length]
 constructor
 ·intro h hs
  obtain⟨i,hi,e⟩:=List.getElem_of_mem hs
  exact h (ns[i],i) (List.mk_mem_zipIdx_iff_getElem?.2 (by rw[List.getElem?_eq_getElem hi])) e
 grind
theorem KG{ns:List (List Nat)}{s:List Nat}{i:Nat}: ∀{m:List (List Nat×Nat)},aU m s=some i→(s,i)∈m
 | [],h=>by simp[aU]at h
 |p::m,h=>by
  rw[aU]at h
  by_cases e:s=p.1
  ·grind
  ·rw[if_neg e]at h
   exact List.mem_cons_of_mem _ (KG (ns:=ns) h)
theorem aoH{scope:Int}{s:List Nat}{i:Nat}(h:KQ scope s=some i):(S6 scope)[i]? =some s:=by
 have r:=KG (ns:=S6 scope) h
 grind [eu]
theorem xI(s:List Nat):lu s≠0↔s∈bG:=by
 constructor
 ·intro h
  by_cases r:s∈bG
  ·exact r
  simp_all[bG,List.mem_cons,List.not_mem_nil,lu,aeZ,ae0,ae1]
 ·intro h
  simp only[bG,List.mem_cons,List.not_mem_nil,or_false]at h
  rcases h with rfl|rfl|rfl|rfl|rfl|rfl|rfl|rfl|rfl|rfl|rfl <;> decide
theorem SK(s:List Nat):ve s≠0↔s∈kO:=by
 grind [kO,ve,Oi,Oj]
theorem SL(s:List Nat):vf s≠0↔s∈eM:=by
 constructor
 ·intro h
  rw[vf]at h
  by_cases h1:s= [114,101,115,116]
  ·subst h1;decide
  by_cases h2:s= [110,105,103,104,116,115]
  ·subst h2;decide
  by_cases h3:s= [104,111,109,101]
  ·subst h3;decide
  rw[if_neg h1,if_neg h2,if_neg h3]at h
  by_cases h4:pF KM s
  ·rw[if_pos h4,xI]at h
   have e:s=KM++s.drop 7:=by rw[←((BP s).1 h4).2,List.take_append_drop]
   rw[e]
   generalize s.drop 7=d at h
   simp only[bG,List.mem_cons,List.not_mem_nil,or_false]at h
   rcases h with rfl|rfl|rfl|rfl|rfl|rfl|rfl|rfl|rfl|rfl|rfl <;> decide
  ·rw[if_neg h4]at h
   by_cases h5:pF LZ s
   ·rw[if_pos h5,xI]at h
    have e:s=LZ++s.drop 6:=by rw[←((BQ s).1 h5).2,List.take_append_drop]
    rw[e]
    generalize s.drop 6=d at h
    simp only[bG,List.mem_cons,List.not_mem_nil,or_false]at h
    rcases h with rfl|rfl|rfl|rfl|rfl|rfl|rfl|rfl|rfl|rfl|rfl <;> decide
   ·rw[if_neg h5]at h;exact absurd rfl h
 ·intro hs
  simp only[eM,List.mem_cons,List.not_mem_nil,or_false]at hs
  rcases hs with rfl|rfl|rfl|rfl|rfl|rfl|rfl|rfl|rfl|rfl|rfl|rfl|rfl|rfl|rfl|rfl|rfl|rfl|rfl|rfl|rfl|rfl|rfl|rfl|rfl <;> decide
theorem SM(scope:Int)(s:List Nat):dZ scope s≠0↔s∈S6 scope:=by
 grind [dZ,S6,xI,SL,SK]
theorem mn(scope:Int)(s:List Nat):KQ scope s=none↔dZ scope s=0:=by
 unfold KQ
 rw[agy,←SM]
 grind
mutual
def comp(r:List Nat→Int)(scope:Int):Ex→Fm
 | .mk op num name args=>if op=1∨op=2∨op=3 then .mk 1 num []else if op=4 then .mk 1 1 []else if op=5 then .mk 1 0 []else if op=6 then(match KQ scope name with|some i=> .mk 6 (i:Int) []|none=> .mk 1 (r name) [])else .mk op 0 (fw r scope args)
def fw(r:List Nat→Int)(scope:Int):List Ex→List Fm
 | []=> []
 |x::xs=>comp r scope x::fw r scope xs
end
theorem nz(r:List Nat→Int)(scope:Int)(x:Ex):comp r scope x=if x.op=1∨x.op=2∨x.op=3 then .mk 1 x.num []else if x.op=4 then .mk 1 1 []else if x.op=5 then .mk 1 0 []else if x.op=6 then(match KQ scope x.name with|some i=> .mk 6 (i:Int) []|none=> .mk 1 (r x.name) [])else .mk x.op 0 (fw r scope x.args):=by obtain⟨_,_,_,_⟩:=x;rw[comp];rfl
theorem lS(r:List Nat→Int)(scope:Int): ∀xs,fw r scope xs=xs.map (comp r scope)
 | []=>rfl
 |x::xs=>by simp_all[fw,lS]
def OQ(cl:List Nat→Int×Int)(scope:Int)(s:List Nat):Int×Int:=if dZ scope s≠0 then(dZ scope s,0)else cl s
def qp(D:List Nat→Int)(scope:Int)(r:List Int)(s:List Nat):Int:=match KQ scope s with|some i=>r.getD i 0|none=>D s
theorem Zu(cl:List Nat→Int×Int)(scope:Int)(x:Ex):x.ty cl scope=x.ty (OQ cl scope) 0:=by
 induction x using Ex.ind with
 |h x ih=>
  rw[Ex.ty_eq,Ex.ty_eq (cl:=OQ cl scope)]
  have hl:lz cl scope x.args=lz (OQ cl scope) 0 x.args:=by
   generalize x.args=xs at ih
   induction xs with
   |nil=>rfl
   |cons y F r=>
    rw[lz,lz,ih y xv,r fun z D=>ih z (by simp[D])]
  grind [OQ,kE]
theorem aAc(cl:List Nat→Int×Int):OQ cl 0=cl:=by
 grind [OQ,kE]
theorem aAd(s:List Nat):KQ 0 s=none:=(mn 0 s).2 (kE s)
theorem ajI(D:List Nat→Int)(r:List Int):qp D 0 r=D:=by
 grind [qp,aAd]
theorem OR{cl:List Nat→Int×Int}{D:List Nat→Int}{scope:Int}{r:List Int}(hc:Mt (OQ cl scope) (qp D scope r))(dO:r.length=(S6 scope).length)(x:Ex): ∀k,x.wf=true→ic x.args≤100000→x.ty cl scope=(k,0)→Ep r (comp D scope x)∧(comp D scope x).val r=x.val0 (qp D scope r)∧Cf k (x.val0 (qp D scope r)):=by
 induction x using Ex.ind with
 |h x ih=>
  intro k Ae hn N
  have V:Cf k (x.val0 (qp D scope r)):=by
   rw[Zu]at N
   exact(KD hc 0 (fun s=>kE s) x k Ae N).2
  refine and_assoc.1 ⟨?_,V⟩
  obtain⟨h1,h2,W,Du,sY,O⟩:=vM Ae
  have X:=aa8 V
  have F: ∀f v,comp D scope x=f→x.val0 (qp D scope r)=v→(bd v→Ep r f∧f.val r=v)→Ep r (comp D scope x)∧(comp D scope x).val r=x.val0 (qp D scope r):=by
   rintro f v rfl e h
   rw[e]at X ⊢
   exact h X
  have U: ∀n,bd n→Ep r (.mk 1 n [])∧(Fm.mk 1 n []).val r=n:=fun n I=>⟨(Hn _ _).2 (.inl ⟨rfl,I⟩),by rw[Fm.val_eq];rfl⟩
  by_cases H:x.op=1∨x.op=2∨x.op=3
  ·exact F _ _ (by rw[nz,if_pos H]) (by rw[Ex.val0_eq,if_neg zO,if_pos H]) (U _)
  by_cases h4:x.op=4
  ·exact F _ _ (by rw[nz,if_neg H,if_pos h4]) (by rw[Ex.val0_eq,if_neg zO,if_neg H,if_pos h4]) (U _)
  by_cases h5:x.op=5
  ·exact F _ _ (by rw[nz,if_neg H,if_neg h4,if_pos h5]) (by rw[Ex.val0_eq,if_neg zO,if_neg H,if_neg h4,if_pos h5]) (U _)
  by_cases h6:x.op=6
  ·cases J:KQ scope x.name with
   |none=>exact F _ _ (by rw[nz,if_neg H,if_neg h4,if_neg h5,if_pos h6,J]) (by rw[Ex.val0_eq,if_pos h6,qp,J]) (U _)
   |some i=>
    have hi:=aoH J
    have mC:i<(S6 scope).length:=(List.getElem?_eq_some_iff.1 hi).1
    refine F (.mk 6 (i:Int) []) (r.getD i 0) (by rw[nz,if_neg H,if_neg h4,if_neg h5,if_pos h6,J]) (by rw[Ex.val0_eq,if_pos h6,qp,J]) fun I=>⟨(Hn _ _).2 (.inr (.inl ⟨rfl,Int.natCast_nonneg i, ?_,I⟩)),by rw[Fm.val_eq];rfl⟩
    show(i:Int).toNat<r.length
    rw[Int.toNat_natCast,dO];exact mC
  ·refine F _ _ (by rw[nz,if_neg H,if_neg h4,if_neg h5,if_neg h6]) (by rw[Ex.val0_eq,if_neg h6,if_neg H,if_neg h4,if_neg h5]) fun I=> ?_
   have h7:7≤x.op:=zO
   obtain⟨ts,K,hr,hk⟩:=vO N h6
   have hlen:ts.length=x.args.length:=vP K
   have zE:=ig x.args
   have Y:CP r (fw D scope x.args)∧fB r (fw D scope x.args)=gm (qp D scope r) x.args∧wb ts (gm (qp D scope r) x.args):=by
    clear N W hr Ae Du sY hlen X V zE F I
    generalize x.args=xs at ih K O hn
    induction xs generalizing ts with
    |nil=>rw[lz]at K;cases K;exact⟨by rw[fw,CP];trivial,by rw[fw,fB,gm],trivial⟩
    |cons z zs Z=>
     obtain⟨t,us,rfl,e1,e2⟩:=oN K
     rw[Gc,Bool.and_eq_true]at O
     rw[ic]at hn
     have hz:=z.nodes_eq
     obtain⟨f1,f2,f3⟩:=ih z xv t O.1 zO e1
     obtain⟨g1,g2,g3⟩:=Z us (fun y hy=>ih y (by simp[hy])) e2 O.2 zO
     rw[fw,fB,gm,CP,f2,g2]
     exact⟨⟨f1,g1⟩,rfl,f3,g3⟩
   obtain⟨i1,i2,i3⟩:=Y
   have ee:(fw D scope x.args).length=x.args.length:=by rw[lS,List.length_map]
   obtain⟨hv,_⟩:=Zs i3 h7 h2 (by rw[hlen];exact W) hr hk
   refine⟨(Hn _ _).2 (.inr (.inr ⟨h7,h2,by show eo x.op (fw D scope x.args).length=true;rw[ee];exact W,by show(fw D scope x.args).length≤kP;rw[ee];exact iM zO,i1,by show vOk x.op (fB r (fw D scope x.args));rw[i2];exact hv⟩)), ?_⟩
   rw[Fm.val_eq]
   show(if x.op=1 then(0:Int)else if x.op=6 then r.getD (0:Int).toNat 0 else Gg x.op (fB r (fw D scope x.args)))=Gg x.op (gm (qp D scope r) x.args)
   rw[if_neg zO,if_neg h6,i2]
def eV(lT:T)(m:List (List Nat×Nat))(kn:List (Nat×Int))(R:List ah):List ah:=Gv lT m kn 4++R
section
variable(lT:T)(m:List (List Nat×Nat))(kn:List (Nat×Int))(R:List ah)
theorem aAe:aE (eV lT m kn R) 0=⟨1,.map (m.map fun p=>sK p.1) (m.map fun p=>nK p.2) false⟩:=nr rfl
theorem aAf:aE (eV lT m kn R) 1=⟨1,.map (kn.map fun p=>nK p.1) (kn.map fun p=>iV p.2) false⟩:=nr rfl
theorem Hs:aE (eV lT m kn R) 2=⟨1,.cells [lT,.mp .S 0 1,.mp .S 1 1,.mp .S 3 1,.mp .S 4 1,.mp .S 5 1,.mp .S 6 1] 0 true⟩:=nr rfl
theorem aH5:aE (eV lT m kn R) 3=⟨1,.map ((eu [] 0).map fun p=>sK p.1) ((eu [] 0).map fun p=>nK p.2) false⟩:=nr rfl
theorem aAg:aE (eV lT m kn R) 4=⟨1,.map ((eu bG 11).map fun p=>sK p.1) ((eu bG 11).map fun p=>nK p.2) false⟩:=nr rfl
theorem aAh:aE (eV lT m kn R) 5=⟨1,.map ((eu eM 25).map fun p=>sK p.1) ((eu eM 25).map fun p=>nK p.2) false⟩:=nr rfl
theorem aAi:aE (eV lT m kn R) 6=⟨1,.map ((eu kO 7).map fun p=>sK p.1) ((eu kO 7).map fun p=>nK p.2) false⟩:=nr rfl
theorem aAj(r:List (Nat×Int)):aK (eV lT m kn R) 1 ⟨1,.map (r.map fun p=>nK p.1) (r.map fun p=>iV p.2) false⟩=eV lT m r R:=nr rfl
end
def kOf:List ah→List (Nat×Int)
 |_::⟨_,.map ks r _⟩::_=>(ks.zip r).map fun p=>((match p.1 with| .i _ n=>n.toNat|_=>0),(match p.2 with| .i _ n=>n|_=>0))
 |_=> []
theorem aoI(lT:T)(m:List (List Nat×Nat))(R:List ah): ∀kn,kOf (eV lT m kn R)=kn:=by
 intro kn
 unfold kOf eV Gv kU
 simp only[List.cons_append]
 induction kn with
 |nil=>rfl
 |cons p kn ih=>rw[List.map_cons,List.map_cons,List.zip_cons_cons,List.map_cons,ih];obtain⟨a,b⟩:=p;simp[nK,iV]
noncomputable def kL(E:Env)(n:Nat)(a:ak)(fr:Fr)(lh:aB ah)(sh:List ah):List (Nat×Int):=kOf (iF E n a fr lh sh)
theorem ajJ{E:Env}{n:Nat}{a:ak}{fr:Fr}{lh:aB ah}{sh:List ah}{lT:T}{m:List (List Nat×Nat)}{R:List ah}{P:List (Nat×Int)→Prop}(h: ∃kn,iF E n a fr lh sh=eV lT m kn R∧P kn):iF E n a fr lh sh=eV lT m (kL E n a fr lh sh) R∧P (kL E n a fr lh sh):=by
 obtain⟨kn,h1,h2⟩:=h
 have:kL E n a fr lh sh=kn:=by unfold kL;rw[h1,aoI]
 rw[this];exact⟨h1,h2⟩
theorem abh{cl:List Nat→Int×Int}{scope:Int}: ∀{xs:List Ex} {ts:List Int},lz cl scope xs= .ok ts→ ∀(k:Nat) (hk:k<xs.length),∃t,xs[k].ty cl scope=(t,0)
 | [],ts,h,k,hk=>by simp at hk
 |x::xs,ts,h,k,hk=>by
  obtain⟨t,us,rfl,e1,e2⟩:=oN h
  cases k with
  |zero=>exact⟨t,e1⟩
  |succ k=>exact abh e2 k (by simpa using hk)
section
variable(l:Cs)(lT:T)(R:List ah)(cl:List T)(hl:IsSl lT l.length cl)(ee:dx l cl)(hlen:l.length≤kP)
def jK(kn:List (Nat×Int)):Prop:= ∀i v,aU kn i=some v→v=(sV l l.length).getD i 0
def aAk(n:Nat)(scope:Int)(y:Ex):Prop:= ∀k kn cs,jK l kn→jI y cs→y.nodes≤200→y.wf=true→y.ty (CL l n) scope=(k,0)→
 ∃D r,ae pE 52 [.ptr .S 2 1 0,.i .i64 scope,.agg cs] (eV lT (bM l l.length) kn R)=some (.agg D,eV lT (bM l l.length) r R)∧jE (comp (gf l) scope y) D∧jK l r∧ ∀i,n≤i→aU r i=aU kn i
def aAl(j:Nat):Prop:= ∀s t kn,fL l s=some j→Gq l s=(t,0)→jK l kn→ ∃r,ae pE 94 [.ptr .S 2 1 0,.s s] (eV lT (bM l l.length) kn R)=some (.i .i64 (gf l s),eV lT (bM l l.length) r R)∧jK l r∧ ∀i,j<i→aU r i=aU kn i
theorem aH7(n:Nat)(scope:Int)(xs:List Ex)(ih: ∀y∈xs,aAk l lT R n scope y)(a:T)(cc:List T)(ha:IsSl a xs.length cc)(hx:cG xs cc)(hn:ic xs≤200)(Ae:Gc xs=true)(ts:List Int)(qk:lz (CL l n) scope xs= .ok ts)(kn:List (Nat×Int))(jN:jK l kn)(op:T)(g g9:Nat)(U:ah)(fr:Fr)(lh:aB ah)(sh:List ah)(fU:sh=eV lT (bM l l.length) kn R)
  (h0:aa fr 0= .ptr .S 2 1 0) (h1:aa fr 1= .i .i64 scope) (H:aa fr 9= .ptr .L 9 g9 0) (I:aa fr 63=a) (Cw:aa fr 64= .i .i64 (xs.length:Int)) (J:aa fr 65= .i .i64 0) (K:ab lh 6=U) (D:ab lh 9=⟨g9,.cells [op,.i .i64 0,.isl .L 60 g 0 xs.length 3] 0 true⟩) (EV:ab lh 60=⟨g,.cells (repl [.i .i64 0,.i .i64 0,.nilsl] xs.length) 0 false⟩):
  mI 80 qz fr lh sh (.ext 1)∧
  (ab (iy pE 80 qz fr lh sh) 6=U∧ab (iy pE 80 qz fr lh sh) 9=⟨g9,.cells [op,.i .i64 0,.isl .L 60 g 0 xs.length 3] 0 true⟩∧(∃cs,ab (iy pE 80 qz fr lh sh) 60=⟨g,.cells cs 0 false⟩∧bg (fw (gf l) scope xs) cs)∧
    (∃r,iF pE 80 qz fr lh sh=eV lT (bM l l.length) r R∧jK l r∧ ∀i,n≤i→aU r i=aU kn i)):=by
 refine bF (P:=fun bE W aY=>ab W 6=U∧ab W 9=⟨g9,.cells [op,.i .i64 0,.isl .L 60 g 0 xs.length 3] 0 true⟩∧(∃cs,ab W 60=⟨g,.cells cs 0 false⟩∧bg (fw (gf l) scope xs) cs)∧(∃r,aY=eV lT (bM l l.length) r R∧jK l r∧ ∀i,n≤i→aU r i=aU kn i))
  (cu (fun k st=> ∃(fr:Fr) (F:aB ah) (A:List T) (JA:List (Nat×Int)),st=⟨fr,F,eV lT (bM l l.length) JA R⟩∧aa fr 0= .ptr .S 2 1 0∧aa fr 1= .i .i64 scope∧aa fr 9= .ptr .L 9 g9 0∧aa fr 63=a∧aa fr 64= .i .i64 (xs.length:Int)∧aa fr 65= .i .i64 (k:Int)∧ab F 6=U∧ab F 9=⟨g9,.cells [op,.i .i64 0,.isl .L 60 g 0 xs.length 3] 0 true⟩∧
    ab F 60=⟨g,.cells (A++repl [.i .i64 0,.i .i64 0,.nilsl] (xs.length-k)) 0 false⟩∧bg (fw (gf l) scope (xs.take k)) A∧jK l JA∧ ∀i,n≤i→aU JA i=aU kn i) _ xs.length ?_ ?_ 0 _ (Nat.zero_le _) ⟨fr,lh,[],kn,by rw[fU],h0,h1,H,I,Cw,J,K,D,by rw[EV];rfl,by rw[List.take_zero,fw];exact bg.nil,jN,fun _ _=>rfl⟩)
 ·rintro k _ hk ⟨fr,F,A,JA,rfl,h0,h1,H,I,Cw,J,K,D,EV,N,MY,Kw⟩
  left
  have aN:(k:Int)<xs.length:=zO
  have VV:=ig xs
  have hyk:=mb (List.getElem_mem hk)
  have hw:=bj (k:=k) (iM zO)
  obtain⟨b,cb,rr,aQ,fD,nN,hb⟩:=ma ha hx k hk
  obtain⟨t,ht⟩:=abh qk k hk
  obtain⟨cf,OA,aC,wN,X,MC⟩:=ih xs[k] (List.getElem_mem hk) t JA _ MY hb zO (zM.1 Ae _ (List.getElem_mem hk)) ht
  obtain⟨V,fc,rfl,vd,XK⟩:=wN.cells
  have O:A.length=k*3:=by rw[N.len,lS];simp;omega
  generalize hy:comp (gf l) scope xs[k]=y at*
  have Hw:(A++repl [T.i .i64 0,T.i .i64 0,T.nilsl] (xs.length-k)).length=xs.length*3:=by rw[List.length_append,CI,O];simp;omega
  have Y:splice (A++repl [T.i .i64 0,T.i .i64 0,T.nilsl] (xs.length-k)) (k*3) [.i .i64 y.op,.i .i64 y.num,V]=(A++ [.i .i64 y.op,.i .i64 y.num,V])++repl [T.i .i64 0,T.i .i64 0,T.nilsl] (xs.length-(k+1)):=by
   rw[show xs.length-k=(xs.length-(k+1))+1 by omega,xE,CH A [T.i .i64 0,T.i .i64 0,T.nilsl] _ [T.i .i64 y.op,T.i .i64 y.num,V] (k*3) O rfl]
  have Z:k*3+3≤xs.length*3:=zO
  simp only[qA,seval,bp,aJ,dL,qz,h0,h1,H,I,Cw,J,D,EV,aN,aQ,hw,aC,mG,nG,fD.kept1,vd.froz1,hk,Hw,Y,Z]
  refine⟨_,rfl,_,_,A++ [.i .i64 y.op,.i .i64 y.num,V],OA,rfl, ?_, ?_, ?_, ?_, ?_, ?_, ?_, ?_, ?_, ?_,X,fun i hi=>by rw[MC i hi,Kw i hi]⟩
  all_goals first|(simp only[qA,seval,h0,h1,H,I,Cw,K,D];done)|skip
  rw[List.take_succ_eq_append_getElem hk,lS,List.map_append,←lS,List.map_cons,hy]
  exact bg.append N (bg.one wN)
 ·rintro _ ⟨fr,F,A,JA,rfl,h0,h1,H,I,Cw,J,K,D,EV,N,MY,Kw⟩
  rw[Nat.sub_self,show repl [T.i .i64 0,T.i .i64 0,T.nilsl] 0= []from rfl,List.append_nil]at EV
  rw[List.take_length]at N
  simp only[qA,seval,qz,Cw,J,Int.lt_irrefl]
  exact⟨_,_,k9,rfl,rfl,K,D,⟨A,EV,N⟩,JA,rfl,MY,Kw⟩
end
section
variable(l:Cs)(lT:T)(R:List ah)(cl:List T)(hl:IsSl lT l.length cl)(ee:dx l cl)(hlen:l.length≤kP)
theorem Gr(n:Nat)(Lk:n≤l.length)(hc: ∀j,j<n→aAl l lT R j)(scope:Int)(fK:scope=0∨scope=1∨scope=2∨scope=3)(x:Ex):aAk l lT R n scope x:=by
 induction x using Ex.ind with
 |h x ih=>
  intro k kn cs N hx hn Ae Z
  obtain⟨a,cc,rfl,ha,On⟩:=hx.cells
  obtain⟨h1,h2,fM,Du,sY,yC⟩:=vM Ae
  have hnd:=x.nodes_eq
  rw[an akl (by simp[HO]),nz]
  by_cases e1:x.op=1
  ·rw[if_pos (.inl e1)]
   simp only[qA,seval,HO,e1]
   exact⟨_,kn,rfl,jE.of (x:= .mk 1 x.num []) (Or.inl ⟨rfl,rfl,rfl⟩) bg.nil,N,fun _ _=>rfl⟩
  by_cases e2:x.op=2
  ·rw[if_pos (.inr (.inl e2))]
   simp only[qA,seval,HO,e2]
   exact⟨_,kn,rfl,jE.of (x:= .mk 1 x.num []) (Or.inl ⟨rfl,rfl,rfl⟩) bg.nil,N,fun _ _=>rfl⟩
  by_cases e3:x.op=3
  ·rw[if_pos (.inr (.inr e3))]
   simp only[qA,seval,HO,e3]
   exact⟨_,kn,rfl,jE.of (x:= .mk 1 x.num []) (Or.inl ⟨rfl,rfl,rfl⟩) bg.nil,N,fun _ _=>rfl⟩
  rw[if_neg zO]
  by_cases e4:x.op=4
  ·rw[if_pos e4]
   simp only[qA,seval,HO,e4]
   exact⟨_,kn,rfl,jE.of (x:= .mk 1 1 []) (Or.inl ⟨rfl,rfl,rfl⟩) bg.nil,N,fun _ _=>rfl⟩
  rw[if_neg e4]
  by_cases e5:x.op=5
  ·rw[if_pos e5]
   simp only[qA,seval,HO,e5]
   exact⟨_,kn,rfl,jE.of (x:= .mk 1 0 []) (Or.inl ⟨rfl,rfl,rfl⟩) bg.nil,N,fun _ _=>rfl⟩
  rw[if_neg e5]
  by_cases h6:x.op=6
  ·rw[if_pos h6]
   rw[Ex.ty_eq,if_pos h6]at Z
   have r:=lkS (eu (S6 scope) (S6 scope).length) x.name
   change _=some (Tc (KQ scope x.name))at r
   by_cases hz:dZ scope x.name=0
   ·rw[if_neg (by simp[hz])]at Z
    have hp:=(mn scope x.name).2 hz
    rw[hp]at r ⊢
    obtain⟨i,mC,eK,JX,_,_,aoJ,_⟩:=vN Lk Z
    obtain⟨O,aC,jJ,eD⟩:=hc i eK x.name k kn JX aoJ N
    simp only[Tc]at r
    rcases fK with rfl|rfl|rfl|rfl
    ·change jb _ ((eu [] 0).map _) ((eu [] 0).map _) _ _ _=_ at r
     simp only[qA,seval,eJ,dL,HO,h6,Hs,aH5,cq,r,aC,acs]
     exact⟨_,O,rfl,jE.of (x:= .mk 1 (gf l x.name) []) (Or.inl ⟨rfl,rfl,rfl⟩) bg.nil,jJ,fun i hi=>eD i zO⟩
    ·change jb _ ((eu bG 11).map _) ((eu bG 11).map _) _ _ _=_ at r
     simp only[qA,seval,eJ,dL,HO,h6,Hs,aAg,cq,r,aC,acs]
     exact⟨_,O,rfl,jE.of (x:= .mk 1 (gf l x.name) []) (Or.inl ⟨rfl,rfl,rfl⟩) bg.nil,jJ,fun i hi=>eD i zO⟩
    ·change jb _ ((eu eM 25).map _) ((eu eM 25).map _) _ _ _=_ at r
     simp only[qA,seval,eJ,dL,HO,h6,Hs,aAh,cq,r,aC,acs]
     exact⟨_,O,rfl,jE.of (x:= .mk 1 (gf l x.name) []) (Or.inl ⟨rfl,rfl,rfl⟩) bg.nil,jJ,fun i hi=>eD i zO⟩
    ·change jb _ ((eu kO 7).map _) ((eu kO 7).map _) _ _ _=_ at r
     simp only[qA,seval,eJ,dL,HO,h6,Hs,aAi,cq,r,aC,acs]
     exact⟨_,O,rfl,jE.of (x:= .mk 1 (gf l x.name) []) (Or.inl ⟨rfl,rfl,rfl⟩) bg.nil,jJ,fun i hi=>eD i zO⟩
   ·cases hp:KQ scope x.name with
    |none=>exact absurd ((mn scope x.name).1 hp) hz
    |some i=>
     rw[hp]at r
     rw[show Tc (some i)= .tup [.i .i64 (i:Int),.b true]from rfl]at r
     have hf:jE (.mk 6 (i:Int) []) [.i .i64 6,.i .i64 (i:Int),.nilsl]:=jE.of (x:= .mk 6 (i:Int) []) (Or.inl ⟨rfl,rfl,rfl⟩) bg.nil
     rcases fK with rfl|rfl|rfl|rfl
     ·exact absurd (kE _) hz
     ·change jb _ ((eu bG 11).map _) ((eu bG 11).map _) _ _ _=_ at r
      simp only[qA,seval,eJ,HO,h6,Hs,aAg,cq,r]
      exact⟨_,kn,rfl,hf,N,fun _ _=>rfl⟩
     ·change jb _ ((eu eM 25).map _) ((eu eM 25).map _) _ _ _=_ at r
      simp only[qA,seval,eJ,HO,h6,Hs,aAh,cq,r]
      exact⟨_,kn,rfl,hf,N,fun _ _=>rfl⟩
     ·change jb _ ((eu kO 7).map _) ((eu kO 7).map _) _ _ _=_ at r
      simp only[qA,seval,eJ,HO,h6,Hs,aAi,cq,r]
      exact⟨_,kn,rfl,hf,N,fun _ _=>rfl⟩
  ·rw[if_neg h6]
   obtain⟨ts,p6,hr,hk⟩:=vO Z h6
   have zE:=ig x.args
   have Ds:x.args.length≤kP:=iM zO
   have hmk:x.args.length*40≤roomy∧x.args.length≤roomy:=by unfold kP at Ds;unfold roomy;omega
   have OC:=fun fr lh sh D h0 h1 F H Cw I J K EV=>aH7 l lT R n scope x.args (fun y hy=>ih y hy) a cc ha On zO yC ts p6 kn N (.i .i64 x.op) 1 1 ⟨1,.cells [.i .i64 0,.i .i64 0,.nilsl] 0 true⟩ fr lh sh D h0 h1 F H Cw I J K EV
   have hL:=fun fr lh sh D h0 h1 F H Cw I J K EV=>And.intro (OC fr lh sh D h0 h1 F H Cw I J K EV).1 (And.intro (OC fr lh sh D h0 h1 F H Cw I J K EV).2.1 (And.intro (OC fr lh sh D h0 h1 F H Cw I J K EV).2.2.1 (And.intro (XI (OC fr lh sh D h0 h1 F H Cw I J K EV).2.2.2.1).1 (ajJ (OC fr lh sh D h0 h1 F H Cw I J K EV).2.2.2.2).1)))
   have hF:=fun fr lh sh D h0 h1 F H Cw I J K EV=>(XI (OC fr lh sh D h0 h1 F H Cw I J K EV).2.2.2.1).2
   have hM:=fun fr lh sh D h0 h1 F H Cw I J K EV=>(ajJ (OC fr lh sh D h0 h1 F H Cw I J K EV).2.2.2.2).2
   have U:=fun fr lh sh D h0 h1 F H Cw I J K EV=>(hF fr lh sh D h0 h1 F H Cw I J K EV).len
   have ee:(fw (gf l) scope x.args).length=x.args.length:=by rw[lS];simp
   rw[ee]at U
   simp only[qA,seval,bp,wY,aJ,gv,HO,aAm,e1,e2,e3,e4,e5,h6,ha.lenI,hmk,hL,U]
   generalize hX:XH _ _=X
   generalize hMX:kL _ _ _ _ _ _=O
   have V:bg (fw (gf l) scope x.args) X:=by
    rw[←hX]
    refine hF _ _ _ rfl ?_ ?_ ?_ ?_ ?_ ?_ ?_ ?_ ?_ <;> simp only[qA,seval]
   have W:jK l O∧ ∀i,n≤i→aU O i=aU kn i:=by
    rw[←hMX]
    refine hM _ _ _ rfl ?_ ?_ ?_ ?_ ?_ ?_ ?_ ?_ ?_ <;> simp only[qA,seval]
   have Y:=V.len
   rw[ee]at Y
   rw[←Y,List.take_length]
   exact⟨_,O,rfl,jE.of (x:= .mk x.op 0 (fw (gf l) scope x.args)) (Or.inr ⟨false,by show T.sl X x.args.length false= .sl X (fw (gf l) scope x.args).length false;rw[ee]⟩) V,W.1,W.2⟩
end
theorem jf{x:Ex}(r:bW x=0):x.nodes≤200∧x.depth≤16:=by
 unfold bW at r
 by_cases h:big x
 ·rw[if_pos h]at r;cases r
 ·unfold big at h;omega
theorem abi{lh:aB ah}{sh:List ah}{keep:Bool}{k g wm:Nat}{cs:List T}{bx:Bool}(h:ab lh k=⟨g,.cells cs wm bx⟩)(hc:cs.all froz1=true):fzV lh sh keep (.ptr .L k g 0)=some (.vp cs,[(.L,k,⟨g,.cells cs cs.length bx⟩)]):=by
 unfold fzV aL
 have hk:(keep&&Sp.L==Sp.S)=false:=by cases keep <;> rfl
 show Q.run _ _ (if(keep&&Sp.L==Sp.S)=true then _ else _)=_
 rw[hk]
 simp only[Bool.false_eq_true,if_false,Q.run]
 have r:(St.mk .nil lh sh).get .L k=⟨g,.cells cs wm bx⟩:=h
 rw[r]
 simp only[if_true,List.drop_zero]
 have:bn (fz false 7) cs= .ret (cs,[]):=by
  clear h r
  induction cs with
  |nil=>rfl
  |cons c cs ih=>
   rw[List.all_cons,Bool.and_eq_true]at hc
   simp only[bn,kK hc.1,ih hc.2,Q.bind,List.append_nil]
 rw[this]
 rfl
theorem const_comp{l:Cs}{s:List Nat}{t:Int}(h:Gq l s=(t,0)): ∃i,∃hi:i<l.length,fL l s=some i∧bW l[i].2=0∧l[i].2.ty (CL l i) 0=(t,0)∧Ep [] (comp (gf l) 0 l[i].2)∧(comp (gf l) 0 l[i].2).val []=gf l s∧gf l s=(sV l l.length).getD i 0:=by
 obtain⟨i,hi,JX,F,I,r,H,J,_,K⟩:=KE h
 have Ae:=iX F
 have N:=(l[i].2).nodes_eq
 have U:=jf F
 have h0:Mt (OQ (Gq l) 0) (qp (gf l) 0 []):=by rw[aAc,ajI];exact GG l
 obtain⟨h1,h2,h3⟩:=OR h0 rfl l[i].2 t Ae zO r
 rw[ajI]at h2 h3
 have O:=(KD (GG l) 0 (fun s=>kE s) l[i].2 t Ae r).1
 have D:abc l 0 l[i].2=sD t (l[i].2.val0 (gf l)):=O
 rw[H]at D
 have e1:=(Hp (scope:=0) J).2.2
 have e2:=(Hp (scope:=0) h3).2.2
 rw[←D,e1]at e2
 exact⟨i,hi,JX,F,I,h1,by rw[h2,e2],K⟩
section
variable(l:Cs)(lT:T)(R:List ah)(cl:List T)(hl:IsSl lT l.length cl)(ee:dx l cl)(hlen:l.length≤kP)
include hl ee
theorem Gs: ∀j,j<l.length→aAl l lT R j:=by
 intro j
 induction j using Nat.strongRecOn with
 |ind j ih=>
  intro X s t kn JX O U
  obtain⟨j',hj',H,Y,ht,mg,I,Z⟩:=const_comp O
  rw[JX]at H
  cases H
  have D:=lkS (bM l l.length) s
  rw[su l s l.length (Nat.le_refl _),List.take_length,JX]at D
  rw[show Tc (some j)= .tup [.i .i64 (j:Int),.b true]from rfl]at D
  have F:jb (.one .int) (kn.map fun p=>nK p.1) (kn.map fun p=>iV p.2) (.i .i64 (j:Int)) (.i .i64 0) true=_:=amg (kT:=nK) (vT:=iV) agl (fun _=>rfl) kn j (.i .i64 0)
  rw[an auW (by simp[c94])]
  cases N:aU kn j with
  |some v=>
   have e:=U j v N
   rw[N]at F
   simp only[show iV v= .i .i64 v from rfl]at F
   rw[Z,←e]
   simp only[qA,seval,c94,Hs,aAe,aAf,cq,D,F]
   exact⟨kn,rfl,U,fun _ _=>rfl⟩
  |none=>
   rw[N]at F
   simp only at F
   obtain⟨b,cb,r,aQ,fD,nN,hb⟩:=ga hl ee j X
   obtain⟨cf,J,aC,wN,jJ,eD⟩:=Gr l lT R j (Nat.le_of_lt X) (fun i hi=>ih i hi zO) 0 (.inl rfl) l[j].2 t kn _ U hb (jf Y).1 (iX Y) ht
   obtain⟨V,fc,rfl,vd,XK⟩:=wN.cells
   have K:=GI [] .nilsl (Or.inl ⟨rfl,rfl,rfl⟩) (comp (gf l) 0 l[j].2) V fc [] vd XK mg
   rw[I]at K
   have yD:aU J j=none:=by rw[eD j (Nat.le_refl _),N]
   have jx:lU (.one .int) (.i .i64 (j:Int)) (.i .i64 (gf l s)) (J.map fun p=>nK p.1) (J.map fun p=>iV p.2)=_:=u9 (kT:=nK) (vT:=iV) agl J j (gf l s) yD
   generalize comp (gf l) 0 l[j].2=y at*
   have Aj:([T.i .i64 y.op,T.i .i64 y.num,V]:List T).all froz1=true:=by simp[vd.froz1,uW]
   have W:=fun lh sh keep (h:ab lh 9=⟨1,.cells [.i .i64 y.op,.i .i64 y.num,V] 0 true⟩)=>abi (sh:=sh) (keep:=keep) h Aj
   simp only[qA,seval,dL,c94,Hs,aAe,aAf,cq,D,F,aQ,fD.kept1,aC,mG,W,aDk,K,ai2,jx,aAj]
   refine⟨_,rfl, ?_, ?_⟩
   ·intro i v hi
    rw[lQ]at hi
    cases Dd:aU J i with
    |some u=>rw[Dd]at hi;cases hi;exact jJ i _ Dd
    |none=>
     rw[Dd]at hi
     simp only at hi
     split at hi
     ·rename_i e;subst e;cases hi;exact Z
     ·cases hi
   ·intro i hi
    rw[lQ,eD i zO]
    cases aU kn i with
    |some u=>rfl
    |none=>simp only;rw[if_neg zO]
end
theorem Zr(op num:Int)(h:op=1∨op=2∨op=3∨op=4∨op=5)(a:T):ae pE 239 [.i .i64 op,.i .i64 num,a] []=some (.i .i64 (if op=1∨op=2∨op=3 then num else if op=4 then 1 else 0),[]):=by
 rw[an Vg (by simp[qD])]
 rcases h with rfl|rfl|rfl|rfl|rfl <;> simp only[qA,seval,qD,true_or,or_true,or_self]
theorem OY{cl:List Nat→Int×Int}{scope:Int}: ∀{xs:List Ex} {ts:List Int},lz cl scope xs= .ok ts→ ∀(k:Nat) (hk:k<xs.length),∃t,xs[k].ty cl scope=(t,0)
 | [],ts,h,k,hk=>by simp at hk
 |x::xs,ts,h,k,hk=>by
  obtain⟨t,us,rfl,e1,e2⟩:=oN h
  cases k with
  |zero=>grind
  |succ k=>simp_all[OY]
theorem JY{cl:List Nat→Int×Int}{D:List Nat→Int}(hc:Mt cl D){scope:Int}(F: ∀s,dZ scope s=0): ∀{xs:List Ex} {ts:List Int},Gc xs=true→lz cl scope xs= .ok ts→wb ts (gm D xs)
 | [],ts,_,h=>by rw[lz]at h;cases h;trivial
 |x::xs,ts,r,h=>by
  obtain⟨t,us,rfl,e1,e2⟩:=oN h
  rw[Gc,Bool.and_eq_true]at r
  exact⟨(KD hc scope F x t r.1 e1).2,JY hc F r.2 e2⟩
theorem EW(l:Cs)(k:Nat): ∀n,n≤k→n≤l.length→jC (l.take k) n=jC l n
 |0,_,_=>rfl
 |n+1,h,hl=>by
  rw[xD l zO,xD (l.take k) (by rw[List.length_take];omega),EW l k n zO zO,List.take_take,Nat.min_eq_left zO,List.getElem_take]
theorem L6(l:Cs){k:Nat}(hk:k≤l.length)(x:Ex):dc (l.take k) 0 x=Gf (l.take k) (jC l k) x:=by
 grind [dc,Gf,List.length_take,Nat.min_eq_left,EW]
section
variable(l:Cs)(lT:T)(cl:List T)(hl:IsSl lT l.length cl)(ee:dx l cl)(hlen:l.length≤kP)(tZ:smC l)
theorem ae8{k:Nat}(hk:k<l.length)(hl:IsSl lT l.length cl)(ee:dx l cl): ∃ex,lT= .sl cl l.length ex∧IsSl (.sl (List.take (k*5) cl) k (ex&&decide (k=l.length))) k (cl.take (k*5))∧dx (l.take k) (cl.take (k*5))∧cl.length=l.length*5:=by
 rcases hl with⟨_,hz,_⟩|⟨ex,rfl⟩
 ·omega
 ·exact⟨ex,rfl,Or.inr ⟨_,rfl⟩,ee.take k,ee.len⟩
end
end Go.Proofs.YtcpceiclnbmgiaaGreat
