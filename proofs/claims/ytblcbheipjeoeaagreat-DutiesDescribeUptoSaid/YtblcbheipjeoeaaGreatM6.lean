/- Walks of functions of the program and of the reference, and their plain laws, part 6. Conditions: the theorems' own. -/
import Derived.Test.YtblcbheipjeoeaaGreatM5
import Derived.KernelRfl
set_option maxRecDepth 100000
set_option linter.unusedSimpArgs false
set_option linter.unusedVariables false
set_option maxHeartbeats 16000000
namespace Go.Proofs.YtblcbheipjeoeaaGreat
open Go Go.Ev
def kP(ns:List (List Nat))(i:Nat):List (List Nat×Nat):=(ns.take i).zipIdx
theorem Zu{ns:List (List Nat)}{i:Nat}(hi:i<ns.length):kP ns (i+1)=kP ns i++ [(ns[i],i)]:=by
 unfold kP
 rw[List.take_succ_eq_append_getElem hi,List.zipIdx_append]
 simp[List.length_take,Nat.min_eq_left (Nat.le_of_lt hi)]
theorem Zv{ns:List (List Nat)}(C:ns.Nodup){i:Nat}(hi:i<ns.length):iF (kP ns i) ns[i]=none:=by
 have D: ∀(m:List (List Nat×Nat)) (s:List Nat),(∀p∈m,p.1≠s)→iF m s=none:=by
  intro m s h
  induction m with
  |nil=>rfl
  |cons p m ih=>
   rw[iF,if_neg (fun e=>h p (List.mem_cons_self ..) e.symm)]
   exact ih fun q F=>h q (List.mem_cons_of_mem _ F)
 refine D _ _ fun p H e=> ?_
 have E:p.1∈ns.take i:=List.fst_mem_of_mem_zipIdx H
 rw[e]at E
 obtain⟨j,I,r⟩:=List.getElem_of_mem E
 rw[List.length_take]at I
 rw[List.getElem_take]at r
 exact List.pairwise_iff_getElem.1 C j i (by omega) hi (by omega) r
def qh(lT:T)(m:List (List Nat×Nat))(kn:List (Nat×Int))(c0 c1 c2 c3:T)(ms:List (List (List Nat×Nat))):List gR:=
 ⟨1,.map (m.map fun p=>sK p.1) (m.map fun p=>nK p.2) false⟩::⟨1,.map (kn.map fun p=>nK p.1) (kn.map fun p=>iV p.2) false⟩::⟨1,.cells [lT,.mp .S 0 1,.mp .S 1 1,c0,c1,c2,c3] 0 true⟩::ms.map fun p=>⟨1,.map (p.map fun p=>sK p.1) (p.map fun p=>nK p.2) false⟩
section
variable(lT:T)(m:List (List Nat×Nat))(kn:List (Nat×Int))(c0 c1 c2 c3:T)(ms:List (List (List Nat×Nat)))
theorem cp0:jr (qh lT m kn c0 c1 c2 c3 ms) 0=⟨1,.map (m.map fun p=>sK p.1) (m.map fun p=>nK p.2) false⟩:=nr rfl
theorem cp2:jr (qh lT m kn c0 c1 c2 c3 ms) 2=⟨1,.cells [lT,.mp .S 0 1,.mp .S 1 1,c0,c1,c2,c3] 0 true⟩:=nr rfl
theorem ayE(i:List (List Nat×Nat)):jP (qh lT m kn c0 c1 c2 c3 ms) 0 ⟨1,.map (i.map fun p=>sK p.1) (i.map fun p=>nK p.2) false⟩=qh lT i kn c0 c1 c2 c3 ms:=nr rfl
theorem adD(i r C D:T):jP (qh lT m kn c0 c1 c2 c3 ms) 2 ⟨1,.cells [lT,.mp .S 0 1,.mp .S 1 1,i,r,C,D] 0 true⟩=qh lT m kn i r C D ms:=nr rfl
theorem atF:qh lT [] [] .nilmp .nilmp .nilmp .nilmp []= [⟨1,.map [] [] false⟩,⟨1,.map [] [] false⟩,⟨1,.cells [lT,.mp .S 0 1,.mp .S 1 1,.nilmp,.nilmp,.nilmp,.nilmp] 0 true⟩]:=nr rfl
end
section
variable(l:Cs)(lT:T)(cl:List T)(hl:g8 lT l.length cl)(lM:kD l cl)(hlen:l.length≤oQ)
include hl lM hlen
theorem ayF(fr:Fr)(lh:hJ gR)(sh:List gR)(V:sh=qh lT [] [] .nilmp .nilmp .nilmp .nilmp [])
  (D:an fr 3= .ptr .S 2 1 0) (E:an fr 16=lT) (C:an fr 17= .i .i64 (l.length:Int)) (F:an fr 18= .i .i64 0):
  kV 71 yx fr lh sh (.ext 0)∧
  (kb pE 71 yx fr lh sh=qh lT (jh l l.length) [] .nilmp .nilmp .nilmp .nilmp []):=by
 refine ib (P:=fun Y Z W=>W=qh lT (jh l l.length) [] .nilmp .nilmp .nilmp .nilmp [])
  (ij (fun k st=> ∃(fr:Fr) (I:hJ gR),st=⟨fr,I,qh lT (jh l k) [] .nilmp .nilmp .nilmp .nilmp []⟩∧an fr 3= .ptr .S 2 1 0∧an fr 16=lT∧an fr 17= .i .i64 (l.length:Int)∧an fr 18= .i .i64 (k:Int)) _ l.length ?_ ?_ 0 _ (Nat.zero_le _) ⟨fr,lh,by rw[V];rfl,D,E,C,F⟩)
 ·rintro k _ K ⟨fr,I,rfl,D,E,C,F⟩
  left
  have N:(k:Int)<l.length:=by omega
  have O:=iD (k:=k) (by omega)
  obtain⟨b,cb,r,U,jE,oV,hb⟩:=lL hl lM k K
  have H:=lkS (jh l k) l[k].1
  rw[BU l K]
  cases J:iF (jh l k) l[k].1 with
  |some i=>
   rw[J]at H
   unfold TF at H
   simp only[qA,seval,iR,iy,kq,yx,D,E,C,F,N,U,O,cp2,cp0,ju,H]
   refine⟨_,rfl,_,_,rfl, ?_, ?_, ?_, ?_⟩ <;> simp only[qA,seval,D,E,C]
  |none=>
   rw[J]at H
   unfold TF at H
   have X:rB (.one .str) (.s l[k].1) (.i .i64 (k:Int)) ((jh l k).map fun p=>sK p.1) ((jh l k).map fun p=>nK p.2)=_:=Aq (kT:=sK) (vT:=nK) FL (jh l k) l[k].1 k J
   simp only[qA,seval,iR,iy,kq,yx,D,E,C,F,N,U,O,cp2,cp0,ju,H,Ch,X,ayE]
   refine⟨_,rfl,_,_,rfl, ?_, ?_, ?_, ?_⟩ <;> simp only[qA,seval,D,E,C]
 ·rintro _ ⟨fr,I,rfl,D,E,C,F⟩
  simp only[qA,seval,yx,C,F,Int.lt_irrefl]
  exact⟨_,_,jB,rfl,rfl,rfl⟩
end
def TA(scope:Int):List (List Nat):=if scope=1 then jb else if scope=2 then lr else if scope=3 then mZ else []
theorem ayG:gS pE 113 [.i .i64 1] []=some (.sl (strs jb) 11 true,[]):=je (m:=100) (jd (by kernel_rfl))
theorem ayH:gS pE 113 [.i .i64 2] []=some (.sl (strs lr) 25 false,[]):=je (m:=100) (jd (by kernel_rfl))
theorem ayI:gS pE 113 [.i .i64 3] []=some (.sl (strs mZ) 7 true,[]):=je (m:=100) (jd (by kernel_rfl))
theorem ayJ:gS pE 113 [.i .i64 0] []=some (.nilsl,[]):=je (m:=100) (jd (by kernel_rfl))
theorem Lk:jb.Nodup:=by decide+kernel
theorem Zw:lr.Nodup:=by decide+kernel
theorem Zx:mZ.Nodup:=by decide+kernel
theorem Hs{α:Type}(d:α): ∀(l:List α) (x:α),pd d l l.length x=l++ [x]
 | [],x=>rfl
 |a::l,x=>by rw[List.length_cons,pd,Hs d l x];rfl
theorem LP{α:Type}(d:α): ∀(l:List α) (x y:α),pd d (l++ [x]) l.length y=l++ [y]
 | [],x,y=>rfl
 |a::l,x,y=>by rw[List.cons_append,List.length_cons,pd,LP d l x y];rfl
section
variable(lT:T)(m:List (List Nat×Nat))(kn:List (Nat×Int))(c0 c1 c2 c3:T)(ms:List (List (List Nat×Nat)))
theorem cpL:(qh lT m kn c0 c1 c2 c3 ms).length=ms.length+3:=by unfold qh;simp
theorem cpA:jP (qh lT m kn c0 c1 c2 c3 ms) (ms.length+3) ⟨1,.map [] [] false⟩=qh lT m kn c0 c1 c2 c3 (ms++ [[]]):=by
 unfold qh jP
 rw[pd,pd,pd]
 have:=Hs lA (ms.map fun p=>(⟨1,.map (p.map fun p=>sK p.1) (p.map fun p=>nK p.2) false⟩:gR)) ⟨1,.map [] [] false⟩
 rw[List.length_map]at this
 rw[this,List.map_append]
 rfl
theorem cpq(p:List (List Nat×Nat)):jr (qh lT m kn c0 c1 c2 c3 (ms++ [p])) (ms.length+3)=⟨1,.map (p.map fun p=>sK p.1) (p.map fun p=>nK p.2) false⟩:=by
 unfold qh jr
 rw[iy,iy,iy,List.map_append]
 have:=xx lA (ms.map fun p=>(⟨1,.map (p.map fun p=>sK p.1) (p.map fun p=>nK p.2) false⟩:gR)) ⟨1,.map (p.map fun p=>sK p.1) (p.map fun p=>nK p.2) false⟩
 rw[List.length_map]at this
 exact this
theorem ayK(p q:List (List Nat×Nat)):jP (qh lT m kn c0 c1 c2 c3 (ms++ [p])) (ms.length+3) ⟨1,.map (q.map fun p=>sK p.1) (q.map fun p=>nK p.2) false⟩=qh lT m kn c0 c1 c2 c3 (ms++ [q]):=by
 unfold qh jP
 rw[pd,pd,pd,List.map_append,List.map_append]
 have:=LP lA (ms.map fun p=>(⟨1,.map (p.map fun p=>sK p.1) (p.map fun p=>nK p.2) false⟩:gR)) ⟨1,.map (p.map fun p=>sK p.1) (p.map fun p=>nK p.2) false⟩ ⟨1,.map (q.map fun p=>sK p.1) (q.map fun p=>nK p.2) false⟩
 rw[List.length_map]at this
 exact congrArg _ (congrArg _ (congrArg _ this))
theorem I8(C:Nat)(D:(C=0∧c0= .mp .S (ms.length+3) 1)∨(C=1∧c1= .mp .S (ms.length+3) 1)∨(C=2∧c2= .mp .S (ms.length+3) 1)∨(C=3∧c3= .mp .S (ms.length+3) 1))(ns:List (List Nat))(I:ns.Nodup)(FQ:ns.length≤100)(v:T)(K:g8 v ns.length (strs ns))(fr:Fr)(lh:hJ gR)(sh:List gR)(N:sh=qh lT m kn c0 c1 c2 c3 (ms++ [[]]))
  (E:an fr 3= .ptr .S 2 1 0) (F:an fr 8= .i .i64 (C:Int)) (Ci:an fr 53=v) (CE:an fr 54= .i .i64 (ns.length:Int)) (r:an fr 55= .i .i64 0):
  kV 71 A8 fr lh sh (.ext 4)∧
  (kb pE 71 A8 fr lh sh=qh lT m kn c0 c1 c2 c3 (ms++ [kP ns ns.length])):=by
 refine ib (P:=fun Y Z O=>O=qh lT m kn c0 c1 c2 c3 (ms++ [kP ns ns.length]))
  (ij (fun k st=> ∃(fr:Fr) (J:hJ gR),st=⟨fr,J,qh lT m kn c0 c1 c2 c3 (ms++ [kP ns k])⟩∧an fr 3= .ptr .S 2 1 0∧an fr 8= .i .i64 (C:Int)∧an fr 53=v∧an fr 54= .i .i64 (ns.length:Int)∧an fr 55= .i .i64 (k:Int)) _ ns.length ?_ ?_ 0 _ (Nat.zero_le _) ⟨fr,lh,by rw[N];rfl,E,F,Ci,CE,r⟩)
 ·rintro k _ H ⟨fr,J,rfl,E,F,Ci,CE,r⟩
  left
  have U:(k:Int)<ns.length:=by omega
  have V:=iG (k:=k) (by omega)
  have W: ∀kk,sH v (.i kk (k:Int)) 1=some (.vp (T.s ns[k]::(strs ns).drop (k+1))):=fun kk=>by rw[K.ia (sz:=1) (by rw[Eh];omega) H,Nat.mul_one,GV ns k H]
  have X:rB (.one .str) (.s ns[k]) (.i .i64 (k:Int)) ((kP ns k).map fun p=>sK p.1) ((kP ns k).map fun p=>nK p.2)=_:=Aq (kT:=sK) (vT:=nK) FL (kP ns k) ns[k] k (Zv I H)
  rw[Zu H]
  rcases D with⟨rfl,D⟩|⟨rfl,D⟩|⟨rfl,D⟩|⟨rfl,D⟩ <;>
  (simp only[qA,seval,kR,kq,A8,E,F,Ci,CE,r,U,W,V,cp2,D,cpq,Ch,X,ayK]
   refine⟨_,rfl,_,_,rfl, ?_, ?_, ?_, ?_, ?_⟩ <;> simp only[qA,seval,E,F,Ci,CE])
 ·rintro _ ⟨fr,J,rfl,E,F,Ci,CE,r⟩
  simp only[qA,seval,A8,CE,r,Int.lt_irrefl]
  exact⟨_,_,jB,rfl,rfl,rfl⟩
end
def Iy(lT:T)(m:List (List Nat×Nat))(kn:List (Nat×Int)):Nat→List gR
 |0=>qh lT m kn .nilmp .nilmp .nilmp .nilmp []
 |1=>qh lT m kn (.mp .S 3 1) .nilmp .nilmp .nilmp [kP [] 0]
 |2=>qh lT m kn (.mp .S 3 1) (.mp .S 4 1) .nilmp .nilmp [kP [] 0,kP jb 11]
 |3=>qh lT m kn (.mp .S 3 1) (.mp .S 4 1) (.mp .S 5 1) .nilmp [kP [] 0,kP jb 11,kP lr 25]
 |_=>qh lT m kn (.mp .S 3 1) (.mp .S 4 1) (.mp .S 5 1) (.mp .S 6 1) [kP [] 0,kP jb 11,kP lr 25,kP mZ 7]
theorem akp(lT:T)(m:List (List Nat×Nat))(kn:List (Nat×Int))(fr:Fr)(lh:hJ gR)(r:an fr 3= .ptr .S 2 1 0)(Mg:an fr 43= .i .i64 0):
  ∃C E,DC pE 71 pb ⟨fr,lh,Iy lT m kn 0⟩=some (.nrm,⟨C,E,Iy lT m kn 1⟩)∧an C 3= .ptr .S 2 1 0∧an C 43= .i .i64 1:=by
 have F:jP (qh lT m kn .nilmp .nilmp .nilmp .nilmp []) 3 ⟨1,.map [] [] false⟩=qh lT m kn .nilmp .nilmp .nilmp .nilmp [[]]:=cpA lT m kn .nilmp .nilmp .nilmp .nilmp []
 have L3:(qh lT m kn .nilmp .nilmp .nilmp .nilmp []).length=3:=cpL lT m kn .nilmp .nilmp .nilmp .nilmp []
 have D:=fun fr lh sh H I r J K N=>I8 lT m kn (.mp .S 3 1) .nilmp .nilmp .nilmp [] 0 (by simp) [] List.nodup_nil (by decide) .nilsl (Or.inl ⟨rfl,rfl,rfl⟩) fr lh sh H I r J K N
 change ∀fr lh sh,sh=qh lT m kn (.mp .S 3 1) .nilmp .nilmp .nilmp [[]]→an fr 3= .ptr .S 2 1 0→an fr 8= .i .i64 0→an fr 53= .nilsl→an fr 54= .i .i64 0→an fr 55= .i .i64 0→_ at D
 have O:=fun lh=>If (lh:=lh) (sh:=qh lT m kn .nilmp .nilmp .nilmp .nilmp [[]]) (k:=2) (g:=1) (off:=3) (m:=1) (v:= .mp .S 3 1) An (cp2 lT m kn .nilmp .nilmp .nilmp .nilmp [[]])
 unfold Iy
 simp only[qA,seval,kR,mX,pb,pR,r,Mg,L3,F,O,adD,ayJ,On,D]
 first|done|refine⟨_,_,rfl, ?_, ?_⟩ <;> simp only[qA,seval,r,pR]
theorem akq(lT:T)(m:List (List Nat×Nat))(kn:List (Nat×Int))(fr:Fr)(lh:hJ gR)(r:an fr 3= .ptr .S 2 1 0)(Mg:an fr 43= .i .i64 1):
  ∃C E,DC pE 71 pb ⟨fr,lh,Iy lT m kn 1⟩=some (.nrm,⟨C,E,Iy lT m kn 2⟩)∧an C 3= .ptr .S 2 1 0∧an C 43= .i .i64 2:=by
 have F:jP (qh lT m kn (.mp .S 3 1) .nilmp .nilmp .nilmp [kP [] 0]) 4 ⟨1,.map [] [] false⟩=qh lT m kn (.mp .S 3 1) .nilmp .nilmp .nilmp [kP [] 0,[]]:=cpA lT m kn (.mp .S 3 1) .nilmp .nilmp .nilmp [kP [] 0]
 have L3:(qh lT m kn (.mp .S 3 1) .nilmp .nilmp .nilmp [kP [] 0]).length=4:=cpL lT m kn (.mp .S 3 1) .nilmp .nilmp .nilmp [kP [] 0]
 have D:=fun fr lh sh H I r J K N=>I8 lT m kn (.mp .S 3 1) (.mp .S 4 1) .nilmp .nilmp [kP [] 0] 1 (by simp) jb Lk (by decide) (.sl (strs jb) 11 true) (Or.inr ⟨true,rfl⟩) fr lh sh H I r J K N
 change ∀fr lh sh,sh=qh lT m kn (.mp .S 3 1) (.mp .S 4 1) .nilmp .nilmp [kP [] 0,[]]→an fr 3= .ptr .S 2 1 0→an fr 8= .i .i64 1→an fr 53=(.sl (strs jb) 11 true)→an fr 54= .i .i64 11→an fr 55= .i .i64 0→_ at D
 have O:=fun lh=>If (lh:=lh) (sh:=qh lT m kn (.mp .S 3 1) .nilmp .nilmp .nilmp [kP [] 0,[]]) (k:=2) (g:=1) (off:=4) (m:=1) (v:= .mp .S 4 1) An (cp2 lT m kn (.mp .S 3 1) .nilmp .nilmp .nilmp [kP [] 0,[]])
 unfold Iy
 simp only[qA,seval,kR,mX,pb,pR,r,Mg,L3,F,O,adD,ayG,On,D]
 first|done|refine⟨_,_,rfl, ?_, ?_⟩ <;> simp only[qA,seval,r,pR]
theorem akr(lT:T)(m:List (List Nat×Nat))(kn:List (Nat×Int))(fr:Fr)(lh:hJ gR)(r:an fr 3= .ptr .S 2 1 0)(Mg:an fr 43= .i .i64 2):
  ∃C E,DC pE 71 pb ⟨fr,lh,Iy lT m kn 2⟩=some (.nrm,⟨C,E,Iy lT m kn 3⟩)∧an C 3= .ptr .S 2 1 0∧an C 43= .i .i64 3:=by
 have F:jP (qh lT m kn (.mp .S 3 1) (.mp .S 4 1) .nilmp .nilmp [kP [] 0,kP jb 11]) 5 ⟨1,.map [] [] false⟩=qh lT m kn (.mp .S 3 1) (.mp .S 4 1) .nilmp .nilmp [kP [] 0,kP jb 11,[]]:=cpA lT m kn (.mp .S 3 1) (.mp .S 4 1) .nilmp .nilmp [kP [] 0,kP jb 11]
 have L3:(qh lT m kn (.mp .S 3 1) (.mp .S 4 1) .nilmp .nilmp [kP [] 0,kP jb 11]).length=5:=cpL lT m kn (.mp .S 3 1) (.mp .S 4 1) .nilmp .nilmp [kP [] 0,kP jb 11]
 have D:=fun fr lh sh H I r J K N=>I8 lT m kn (.mp .S 3 1) (.mp .S 4 1) (.mp .S 5 1) .nilmp [kP [] 0,kP jb 11] 2 (by simp) lr Zw (by decide) (.sl (strs lr) 25 false) (Or.inr ⟨false,rfl⟩) fr lh sh H I r J K N
 change ∀fr lh sh,sh=qh lT m kn (.mp .S 3 1) (.mp .S 4 1) (.mp .S 5 1) .nilmp [kP [] 0,kP jb 11,[]]→an fr 3= .ptr .S 2 1 0→an fr 8= .i .i64 2→an fr 53=(.sl (strs lr) 25 false)→an fr 54= .i .i64 25→an fr 55= .i .i64 0→_ at D
 have O:=fun lh=>If (lh:=lh) (sh:=qh lT m kn (.mp .S 3 1) (.mp .S 4 1) .nilmp .nilmp [kP [] 0,kP jb 11,[]]) (k:=2) (g:=1) (off:=5) (m:=1) (v:= .mp .S 5 1) An (cp2 lT m kn (.mp .S 3 1) (.mp .S 4 1) .nilmp .nilmp [kP [] 0,kP jb 11,[]])
 unfold Iy
 simp only[qA,seval,kR,mX,pb,pR,r,Mg,L3,F,O,adD,ayH,On,D]
 first|done|refine⟨_,_,rfl, ?_, ?_⟩ <;> simp only[qA,seval,r,pR]
theorem aks(lT:T)(m:List (List Nat×Nat))(kn:List (Nat×Int))(fr:Fr)(lh:hJ gR)(r:an fr 3= .ptr .S 2 1 0)(Mg:an fr 43= .i .i64 3):
  ∃C E,DC pE 71 pb ⟨fr,lh,Iy lT m kn 3⟩=some (.nrm,⟨C,E,Iy lT m kn 4⟩)∧an C 3= .ptr .S 2 1 0∧an C 43= .i .i64 4:=by
 have F:jP (qh lT m kn (.mp .S 3 1) (.mp .S 4 1) (.mp .S 5 1) .nilmp [kP [] 0,kP jb 11,kP lr 25]) 6 ⟨1,.map [] [] false⟩=qh lT m kn (.mp .S 3 1) (.mp .S 4 1) (.mp .S 5 1) .nilmp [kP [] 0,kP jb 11,kP lr 25,[]]:=cpA lT m kn (.mp .S 3 1) (.mp .S 4 1) (.mp .S 5 1) .nilmp [kP [] 0,kP jb 11,kP lr 25]
 have L3:(qh lT m kn (.mp .S 3 1) (.mp .S 4 1) (.mp .S 5 1) .nilmp [kP [] 0,kP jb 11,kP lr 25]).length=6:=cpL lT m kn (.mp .S 3 1) (.mp .S 4 1) (.mp .S 5 1) .nilmp [kP [] 0,kP jb 11,kP lr 25]
 have D:=fun fr lh sh H I r J K N=>I8 lT m kn (.mp .S 3 1) (.mp .S 4 1) (.mp .S 5 1) (.mp .S 6 1) [kP [] 0,kP jb 11,kP lr 25] 3 (by simp) mZ Zx (by decide) (.sl (strs mZ) 7 true) (Or.inr ⟨true,rfl⟩) fr lh sh H I r J K N
 change ∀fr lh sh,sh=qh lT m kn (.mp .S 3 1) (.mp .S 4 1) (.mp .S 5 1) (.mp .S 6 1) [kP [] 0,kP jb 11,kP lr 25,[]]→an fr 3= .ptr .S 2 1 0→an fr 8= .i .i64 3→an fr 53=(.sl (strs mZ) 7 true)→an fr 54= .i .i64 7→an fr 55= .i .i64 0→_ at D
 have O:=fun lh=>If (lh:=lh) (sh:=qh lT m kn (.mp .S 3 1) (.mp .S 4 1) (.mp .S 5 1) .nilmp [kP [] 0,kP jb 11,kP lr 25,[]]) (k:=2) (g:=1) (off:=6) (m:=1) (v:= .mp .S 6 1) An (cp2 lT m kn (.mp .S 3 1) (.mp .S 4 1) (.mp .S 5 1) .nilmp [kP [] 0,kP jb 11,kP lr 25,[]])
 unfold Iy
 simp only[qA,seval,kR,mX,pb,pR,r,Mg,L3,F,O,adD,ayI,On,D]
 first|done|refine⟨_,_,rfl, ?_, ?_⟩ <;> simp only[qA,seval,r,pR]
theorem ayL(lT:T)(m:List (List Nat×Nat))(fr:Fr)(lh:hJ gR)(sh:List gR)(F:sh=qh lT m [] .nilmp .nilmp .nilmp .nilmp [])(D:an fr 3= .ptr .S 2 1 0)(Mg:an fr 43= .i .i64 0):
  kV 71 pb fr lh sh (.ext 2)∧
  (kb pE 71 pb fr lh sh=Iy lT m [] 4):=by
 refine ib (P:=fun r C H=>H=Iy lT m [] 4)
  (ij (fun k st=> ∃(fr:Fr) (E:hJ gR),st=⟨fr,E,Iy lT m [] k⟩∧an fr 3= .ptr .S 2 1 0∧an fr 43= .i .i64 (k:Int)) _ 4 ?_ ?_ 0 _ (Nat.zero_le _) ⟨fr,lh,by rw[F];rfl,D,Mg⟩)
 ·rintro k _ J ⟨fr,E,rfl,D,Mg⟩
  left
  have I:k=0∨k=1∨k=2∨k=3:=by omega
  rcases I with rfl|rfl|rfl|rfl
  ·obtain⟨r,C,h,Sl,Oi⟩:=akp lT m [] fr E D Mg
   exact⟨_,h,r,C,rfl,Sl,Oi⟩
  ·obtain⟨r,C,h,Sl,Oi⟩:=akq lT m [] fr E D Mg
   exact⟨_,h,r,C,rfl,Sl,Oi⟩
  ·obtain⟨r,C,h,Sl,Oi⟩:=akr lT m [] fr E D Mg
   exact⟨_,h,r,C,rfl,Sl,Oi⟩
  ·obtain⟨r,C,h,Sl,Oi⟩:=aks lT m [] fr E D Mg
   exact⟨_,h,r,C,rfl,Sl,Oi⟩
 ·rintro _ ⟨fr,E,rfl,D,Mg⟩
  simp only[qA,seval,pb,Mg]
  exact⟨_,_,jB,rfl,rfl,rfl⟩
section
variable(l:Cs)(lT:T)(cl:List T)(hl:g8 lT l.length cl)(lM:kD l cl)(hlen:l.length≤oQ)
include hl lM hlen
theorem ajl:gS pE 88 [lT] []=some (.ptr .S 2 1 0,Iy lT (jh l l.length) [] 4):=by
 have i:=fun fr lh sh=>ayF l lT cl hl lM hlen fr lh sh
 have r:=fun fr lh sh=>ayL lT (jh l l.length) fr lh sh
 rw[atF]at i
 rw[gX aoJ (by simp[c88])]
 simp only[qA,seval,mX,kq,c88,TL,TK,hl.lenI,hl.cells,hl.noTup,hl.kept1,i,r]
end
def Ma(scope:Int)(s:List Nat):Option Nat:=iF (kP (TA scope) (TA scope).length) s
theorem Fc{s:List Nat}: ∀{m:List (List Nat×Nat)},iF m s=none↔ ∀p∈m,p.1≠s
 | []=>by simp[iF]
 |p::m=>by
  rw[iF]
  by_cases h:s=p.1
  ·rw[if_pos h];simp[h]
  ·rw[if_neg h,Fc (m:=m)]
   simp only[List.mem_cons,forall_eq_or_imp]
   exact⟨fun q=>⟨fun e=>h e.symm,q⟩,fun q=>q.2⟩
theorem adE{ns:List (List Nat)}{s:List Nat}:iF (kP ns ns.length) s=none↔s∉ns:=by
 rw[Fc]
 unfold kP
 rw[List.take_length]
 constructor
 ·intro h hs
  obtain⟨i,hi,e⟩:=List.getElem_of_mem hs
  exact h (ns[i],i) (List.mk_mem_zipIdx_iff_getElem?.2 (by rw[List.getElem?_eq_getElem hi])) e
 ·intro h p r e
  exact h (e▸List.fst_mem_of_mem_zipIdx r)
theorem LQ{ns:List (List Nat)}{s:List Nat}{i:Nat}: ∀{m:List (List Nat×Nat)},iF m s=some i→(s,i)∈m
 | [],h=>by simp[iF]at h
 |p::m,h=>by
  rw[iF]at h
  by_cases e:s=p.1
  ·rw[if_pos e]at h
   injection h with h
   rw[e,←h]
   exact List.mem_cons_self ..
  ·rw[if_neg e]at h
   exact List.mem_cons_of_mem _ (LQ (ns:=ns) h)
theorem akt{scope:Int}{s:List Nat}{i:Nat}(h:Ma scope s=some i):(TA scope)[i]? =some s:=by
 have r:=LQ (ns:=TA scope) h
 unfold kP at r
 rw[List.take_length]at r
 exact List.mk_mem_zipIdx_iff_getElem?.1 r
theorem BX(s:List Nat):oU s≠0↔s∈jb:=by
 constructor
 ·intro h
  by_cases i:s∈jb
  ·exact i
  ·exfalso;apply h
   simp only[jb,List.mem_cons,List.not_mem_nil,or_false,not_or]at i
   obtain⟨C,D,E,F,H,I,J,K,N,O,r⟩:=i
   simp[oU,Si,Sj,Sk,C,D,E,F,H,I,J,K,N,O,r]
 ·intro h
  simp only[jb,List.mem_cons,List.not_mem_nil,or_false]at h
  rcases h with rfl|rfl|rfl|rfl|rfl|rfl|rfl|rfl|rfl|rfl|rfl <;> decide
theorem Tc(s:List Nat):wO s≠0↔s∈mZ:=by
 constructor
 ·intro h
  by_cases i:s∈mZ
  ·exact i
  ·exfalso;apply h
   simp only[mZ,List.mem_cons,List.not_mem_nil,or_false,not_or]at i
   obtain⟨r,C,D,E,F,H,I⟩:=i
   simp[wO,GQ,GR,r,C,D,E,F,H,I]
 ·intro h
  simp only[mZ,List.mem_cons,List.not_mem_nil,or_false]at h
  rcases h with rfl|rfl|rfl|rfl|rfl|rfl|rfl <;> decide
theorem Td(s:List Nat):Ay s≠0↔s∈lr:=by
 constructor
 ·intro h
  rw[Ay]at h
  by_cases C:s= [114,101,115,116]
  ·subst C;decide
  by_cases D:s= [110,105,103,104,116,115]
  ·subst D;decide
  by_cases E:s= [104,111,109,101]
  ·subst E;decide
  rw[if_neg C,if_neg D,if_neg E]at h
  by_cases i:vn L6 s
  ·rw[if_pos i,BX]at h
   have e:s=L6++s.drop 7:=by rw[←((Ej s).1 i).2,List.take_append_drop]
   rw[e]
   generalize s.drop 7=d at h
   simp only[jb,List.mem_cons,List.not_mem_nil,or_false]at h
   rcases h with rfl|rfl|rfl|rfl|rfl|rfl|rfl|rfl|rfl|rfl|rfl <;> decide
  ·rw[if_neg i]at h
   by_cases r:vn Ni s
   ·rw[if_pos r,BX]at h
    have e:s=Ni++s.drop 6:=by rw[←((Ek s).1 r).2,List.take_append_drop]
    rw[e]
    generalize s.drop 6=d at h
    simp only[jb,List.mem_cons,List.not_mem_nil,or_false]at h
    rcases h with rfl|rfl|rfl|rfl|rfl|rfl|rfl|rfl|rfl|rfl|rfl <;> decide
   ·rw[if_neg r]at h;exact absurd rfl h
 ·intro hs
  simp only[lr,List.mem_cons,List.not_mem_nil,or_false]at hs
  rcases hs with rfl|rfl|rfl|rfl|rfl|rfl|rfl|rfl|rfl|rfl|rfl|rfl|rfl|rfl|rfl|rfl|rfl|rfl|rfl|rfl|rfl|rfl|rfl|rfl|rfl <;> decide
theorem Te(scope:Int)(s:List Nat):ki scope s≠0↔s∈TA scope:=by
 unfold ki TA
 by_cases i:scope=1
 ·rw[if_pos i,if_pos i];exact BX s
 rw[if_neg i,if_neg i]
 by_cases r:scope=2
 ·rw[if_pos r,if_pos r];exact Td s
 rw[if_neg r,if_neg r]
 by_cases C:scope=3
 ·rw[if_pos C,if_pos C];exact Tc s
 rw[if_neg C,if_neg C];simp
theorem rU(scope:Int)(s:List Nat):Ma scope s=none↔ki scope s=0:=by
 unfold Ma
 rw[adE,←Te]
 exact Classical.not_not
mutual
def comp(r:List Nat→Int)(scope:Int):Ex→Fm
 | .mk op num name args=>if op=1∨op=2∨op=3 then .mk 1 num []else if op=4 then .mk 1 1 []else if op=5 then .mk 1 0 []else if op=6 then(match Ma scope name with|some i=> .mk 6 (i:Int) []|none=> .mk 1 (r name) [])else .mk op 0 (lR r scope args)
def lR(i:List Nat→Int)(scope:Int):List Ex→List Fm
 | []=> []
 |x::xs=>comp i scope x::lR i scope xs
end
theorem sR(r:List Nat→Int)(scope:Int)(x:Ex):comp r scope x=if x.op=1∨x.op=2∨x.op=3 then .mk 1 x.num []else if x.op=4 then .mk 1 1 []else if x.op=5 then .mk 1 0 []else if x.op=6 then(match Ma scope x.name with|some i=> .mk 6 (i:Int) []|none=> .mk 1 (r x.name) [])else .mk x.op 0 (lR r scope x.args):=by obtain⟨_,_,_,_⟩:=x;rw[comp];rfl
theorem rq(i:List Nat→Int)(scope:Int): ∀xs,lR i scope xs=xs.map (comp i scope)
 | []=>rfl
 |x::xs=>by rw[lR,rq i scope xs];rfl
def PX(cl:List Nat→Int×Int)(scope:Int)(s:List Nat):Int×Int:=if ki scope s≠0 then(ki scope s,0)else cl s
def vZ(C:List Nat→Int)(scope:Int)(r:List Int)(s:List Nat):Int:=match Ma scope s with|some i=>r.getD i 0|none=>C s
theorem YQ(cl:List Nat→Int×Int)(scope:Int)(x:Ex):x.ty cl scope=x.ty (PX cl scope) 0:=by
 induction x using Ex.ind with
 |h x ih=>
  rw[Ex.ty_eq,Ex.ty_eq (cl:=PX cl scope)]
  have hl:pv cl scope x.args=pv (PX cl scope) 0 x.args:=by
   generalize x.args=xs at ih
   induction xs with
   |nil=>rfl
   |cons y C Wk=>
    rw[pv,pv,ih y (by simp),Wk fun z r=>ih z (by simp[r])]
  by_cases i:x.op=6
  ·rw[if_pos i,if_pos i,mM]
   simp only[ne_eq,not_true_eq_false,if_false]
   unfold PX
   rfl
  ·rw[if_neg i,if_neg i,hl]
theorem atH(cl:List Nat→Int×Int):PX cl 0=cl:=by
 funext s;unfold PX;rw[if_neg (by simp[mM])]
theorem atI(s:List Nat):Ma 0 s=none:=(rU 0 s).2 (mM s)
theorem agZ(r:List Nat→Int)(i:List Int):vZ r 0 i=r:=by
 funext s;unfold vZ;rw[atI]
theorem PY{cl:List Nat→Int×Int}{C:List Nat→Int}{scope:Int}{r:List Int}(hc:NO (PX cl scope) (vZ C scope r))(jZ:r.length=(TA scope).length)(x:Ex): ∀k,x.wf=true→jt x.args≤100000→x.ty cl scope=(k,0)→G9 r (comp C scope x)∧(comp C scope x).val r=x.val0 (vZ C scope r)∧EL k (x.val0 (vZ C scope r)):=by
 induction x using Ex.ind with
 |h x ih=>
  intro k V hn O
  have W:EL k (x.val0 (vZ C scope r)):=by
   rw[YQ]at O
   exact(LM hc 0 (fun s=>mM s) x k V O).2
  refine and_assoc.1 ⟨?_,W⟩
  obtain⟨h1,h2,X,IM,AR,Bl⟩:=xJ V
  have Y:=Zp W
  have D: ∀f v,comp C scope x=f→x.val0 (vZ C scope r)=v→(bd v→G9 r f∧f.val r=v)→G9 r (comp C scope x)∧(comp C scope x).val r=x.val0 (vZ C scope r):=by
   rintro f v rfl e h
   rw[e]at Y ⊢
   exact h Y
  have U: ∀n,bd n→G9 r (.mk 1 n [])∧(Fm.mk 1 n []).val r=n:=fun n J=>⟨(I5 _ _).2 (.inl ⟨rfl,J⟩),by rw[Fm.val_eq];rfl⟩
  by_cases E:x.op=1∨x.op=2∨x.op=3
  ·exact D _ _ (by rw[sR,if_pos E]) (by rw[Ex.val0_eq,if_neg (by omega),if_pos E]) (U _)
  by_cases F:x.op=4
  ·exact D _ _ (by rw[sR,if_neg E,if_pos F]) (by rw[Ex.val0_eq,if_neg (by omega),if_neg E,if_pos F]) (U _)
  by_cases I:x.op=5
  ·exact D _ _ (by rw[sR,if_neg E,if_neg F,if_pos I]) (by rw[Ex.val0_eq,if_neg (by omega),if_neg E,if_neg F,if_pos I]) (U _)
  by_cases H:x.op=6
  ·cases K:Ma scope x.name with
   |none=>exact D _ _ (by rw[sR,if_neg E,if_neg F,if_neg I,if_pos H,K]) (by rw[Ex.val0_eq,if_pos H,vZ,K]) (U _)
   |some i=>
    have hi:=akt K
    have qI:i<(TA scope).length:=(List.getElem?_eq_some_iff.1 hi).1
    refine D (.mk 6 (i:Int) []) (r.getD i 0) (by rw[sR,if_neg E,if_neg F,if_neg I,if_pos H,K]) (by rw[Ex.val0_eq,if_pos H,vZ,K]) fun J=>⟨(I5 _ _).2 (.inr (.inl ⟨rfl,Int.natCast_nonneg i, ?_,J⟩)),by rw[Fm.val_eq];rfl⟩
    show(i:Int).toNat<r.length
    rw[Int.toNat_natCast,jZ];exact qI
  ·refine D _ _ (by rw[sR,if_neg E,if_neg F,if_neg I,if_neg H]) (by rw[Ex.val0_eq,if_neg H,if_neg E,if_neg F,if_neg I]) fun J=> ?_
   have h7:7≤x.op:=by omega
   obtain⟨ts,N,hr,hk⟩:=xM O H
   have hlen:ts.length=x.args.length:=vF N
   have wD:=jR x.args
   have O6:Fb r (lR C scope x.args)∧lU r (lR C scope x.args)=kz (vZ C scope r) x.args∧AY ts (kz (vZ C scope r) x.args):=by
    clear O X hr V IM AR hlen Y W wD D J
    generalize x.args=xs at ih N Bl hn
    induction xs generalizing ts with
    |nil=>rw[pv]at N;cases N;exact⟨by rw[lR,Fb];trivial,by rw[lR,lU,kz],trivial⟩
    |cons z zs Z=>
     obtain⟨t,us,rfl,e1,e2⟩:=uj N
     rw[sM,Bool.and_eq_true]at Bl
     rw[jt]at hn
     have hz:=z.nodes_eq
     obtain⟨f1,f2,f3⟩:=ih z (by simp) t Bl.1 (by omega) e1
     obtain⟨g1,g2,g3⟩:=Z us (fun y hy=>ih y (by simp[hy])) e2 Bl.2 (by omega)
     rw[lR,lU,kz,Fb,f2,g2]
     exact⟨⟨f1,g1⟩,rfl,f3,g3⟩
   obtain⟨i1,i2,i3⟩:=O6
   have lM:(lR C scope x.args).length=x.args.length:=by rw[rq,List.length_map]
   obtain⟨hv,_⟩:=P3 i3 h7 h2 (by rw[hlen];exact X) hr hk
   refine⟨(I5 _ _).2 (.inr (.inr ⟨h7,h2,by show jA x.op (lR C scope x.args).length=true;rw[lM];exact X,by show(lR C scope x.args).length≤oQ;rw[lM];exact ku (by omega),i1,by show vOk x.op (lU r (lR C scope x.args));rw[i2];exact hv⟩)), ?_⟩
   rw[Fm.val_eq]
   show(if x.op=1 then(0:Int)else if x.op=6 then r.getD (0:Int).toNat 0 else FH x.op (lU r (lR C scope x.args)))=FH x.op (kz (vZ C scope r) x.args)
   rw[if_neg (by omega),if_neg H,i2]
def lC(lT:T)(m:List (List Nat×Nat))(kn:List (Nat×Int))(R:List gR):List gR:=Iy lT m kn 4++R
section
variable(lT:T)(m:List (List Nat×Nat))(kn:List (Nat×Int))(R:List gR)
theorem atJ:jr (lC lT m kn R) 0=⟨1,.map (m.map fun p=>sK p.1) (m.map fun p=>nK p.2) false⟩:=nr rfl
theorem atK:jr (lC lT m kn R) 1=⟨1,.map (kn.map fun p=>nK p.1) (kn.map fun p=>iV p.2) false⟩:=nr rfl
theorem I9:jr (lC lT m kn R) 2=⟨1,.cells [lT,.mp .S 0 1,.mp .S 1 1,.mp .S 3 1,.mp .S 4 1,.mp .S 5 1,.mp .S 6 1] 0 true⟩:=nr rfl
theorem ayM:jr (lC lT m kn R) 3=⟨1,.map ((kP [] 0).map fun p=>sK p.1) ((kP [] 0).map fun p=>nK p.2) false⟩:=nr rfl
theorem atL:jr (lC lT m kn R) 4=⟨1,.map ((kP jb 11).map fun p=>sK p.1) ((kP jb 11).map fun p=>nK p.2) false⟩:=nr rfl
theorem atM:jr (lC lT m kn R) 5=⟨1,.map ((kP lr 25).map fun p=>sK p.1) ((kP lr 25).map fun p=>nK p.2) false⟩:=nr rfl
theorem atN:jr (lC lT m kn R) 6=⟨1,.map ((kP mZ 7).map fun p=>sK p.1) ((kP mZ 7).map fun p=>nK p.2) false⟩:=nr rfl
theorem atO(i:List (Nat×Int)):jP (lC lT m kn R) 1 ⟨1,.map (i.map fun p=>nK p.1) (i.map fun p=>iV p.2) false⟩=lC lT m i R:=nr rfl
end
def kOf:List gR→List (Nat×Int)
 |_::⟨_,.map ks r _⟩::_=>(ks.zip r).map fun p=>((match p.1 with| .i _ n=>n.toNat|_=>0),(match p.2 with| .i _ n=>n|_=>0))
 |_=> []
theorem aku(lT:T)(m:List (List Nat×Nat))(R:List gR): ∀kn,kOf (lC lT m kn R)=kn:=by
 intro kn
 unfold kOf lC Iy qh
 simp only[List.cons_append]
 induction kn with
 |nil=>rfl
 |cons p kn ih=>rw[List.map_cons,List.map_cons,List.zip_cons_cons,List.map_cons,ih];obtain⟨a,b⟩:=p;simp[nK,iV]
noncomputable def kL(E:Env)(n:Nat)(a:gT)(fr:Fr)(lh:hJ gR)(sh:List gR):List (Nat×Int):=kOf (kb E n a fr lh sh)
theorem ag0{E:Env}{n:Nat}{a:gT}{fr:Fr}{lh:hJ gR}{sh:List gR}{lT:T}{m:List (List Nat×Nat)}{R:List gR}{P:List (Nat×Int)→Prop}(h: ∃kn,kb E n a fr lh sh=lC lT m kn R∧P kn):kb E n a fr lh sh=lC lT m (kL E n a fr lh sh) R∧P (kL E n a fr lh sh):=by
 obtain⟨kn,i,r⟩:=h
 have:kL E n a fr lh sh=kn:=by unfold kL;rw[i,aku]
 rw[this];exact⟨i,r⟩
theorem Zy{cl:List Nat→Int×Int}{scope:Int}: ∀{xs:List Ex} {ts:List Int},pv cl scope xs= .ok ts→ ∀(k:Nat) (i:k<xs.length),∃t,xs[k].ty cl scope=(t,0)
 | [],ts,h,k,i=>by simp at i
 |x::xs,ts,h,k,i=>by
  obtain⟨t,us,rfl,r,C⟩:=uj h
  cases k with
  |zero=>exact⟨t,r⟩
  |succ k=>exact Zy C k (by simpa using i)
section
variable(l:Cs)(lT:T)(R:List gR)(cl:List T)(hl:g8 lT l.length cl)(lM:kD l cl)(hlen:l.length≤oQ)
def oR(kn:List (Nat×Int)):Prop:= ∀i v,iF kn i=some v→v=(tr l l.length).getD i 0
def atP(n:Nat)(scope:Int)(y:Ex):Prop:= ∀k kn cs,oR l kn→lK y cs→y.nodes≤200→y.wf=true→y.ty (CL l n) scope=(k,0)→
 ∃C r,gS pE 89 [.ptr .S 2 1 0,.i .i64 scope,.agg cs] (lC lT (jh l l.length) kn R)=some (.agg C,lC lT (jh l l.length) r R)∧oG (comp (mw l) scope y) C∧oR l r∧ ∀i,n≤i→iF r i=iF kn i
def atQ(j:Nat):Prop:= ∀s t kn,k8 l s=some j→Is l s=(t,0)→oR l kn→ ∃r,gS pE 146 [.ptr .S 2 1 0,.s s] (lC lT (jh l l.length) kn R)=some (.i .i64 (mw l s),lC lT (jh l l.length) r R)∧oR l r∧ ∀i,j<i→iF r i=iF kn i
theorem ayO(n:Nat)(scope:Int)(xs:List Ex)(ih: ∀y∈xs,atP l lT R n scope y)(a:T)(cc:List T)(ha:g8 a xs.length cc)(hx:jN xs cc)(hn:jt xs≤200)(tu:sM xs=true)(ts:List Int)(mK:pv (CL l n) scope xs= .ok ts)(kn:List (Nat×Int))(oH:oR l kn)(op:T)(g D:Nat)(V:gR)(fr:Fr)(lh:hJ gR)(sh:List gR)(kN:sh=lC lT (jh l l.length) kn R)
  (H:an fr 0= .ptr .S 2 1 0) (I:an fr 1= .i .i64 scope) (J:an fr 9= .ptr .L 9 D 0) (K:an fr 63=a) (Ht:an fr 64= .i .i64 (xs.length:Int)) (Ja:an fr 65= .i .i64 0) (N:a6 lh 6=V) (E:a6 lh 9=⟨D,.cells [op,.i .i64 0,.isl .L 60 g 0 xs.length 3] 0 true⟩) (Hu:a6 lh 60=⟨g,.cells (repl [.i .i64 0,.i .i64 0,.nilsl] xs.length) 0 false⟩):
  kV 80 uA fr lh sh (.ext 1)∧
  (a6 (kH pE 80 uA fr lh sh) 6=V∧a6 (kH pE 80 uA fr lh sh) 9=⟨D,.cells [op,.i .i64 0,.isl .L 60 g 0 xs.length 3] 0 true⟩∧(∃cs,a6 (kH pE 80 uA fr lh sh) 60=⟨g,.cells cs 0 false⟩∧iO (lR (mw l) scope xs) cs)∧
    (∃r,kb pE 80 uA fr lh sh=lC lT (jh l l.length) r R∧oR l r∧ ∀i,n≤i→iF r i=iF kn i)):=by
 refine ib (P:=fun iq X iw=>a6 X 6=V∧a6 X 9=⟨D,.cells [op,.i .i64 0,.isl .L 60 g 0 xs.length 3] 0 true⟩∧(∃cs,a6 X 60=⟨g,.cells cs 0 false⟩∧iO (lR (mw l) scope xs) cs)∧(∃r,iw=lC lT (jh l l.length) r R∧oR l r∧ ∀i,n≤i→iF r i=iF kn i))
  (ij (fun k st=> ∃(fr:Fr) (F:hJ gR) (A:List T) (KZ:List (Nat×Int)),st=⟨fr,F,lC lT (jh l l.length) KZ R⟩∧an fr 0= .ptr .S 2 1 0∧an fr 1= .i .i64 scope∧an fr 9= .ptr .L 9 D 0∧an fr 63=a∧an fr 64= .i .i64 (xs.length:Int)∧an fr 65= .i .i64 (k:Int)∧a6 F 6=V∧a6 F 9=⟨D,.cells [op,.i .i64 0,.isl .L 60 g 0 xs.length 3] 0 true⟩∧
    a6 F 60=⟨g,.cells (A++repl [.i .i64 0,.i .i64 0,.nilsl] (xs.length-k)) 0 false⟩∧iO (lR (mw l) scope (xs.take k)) A∧oR l KZ∧ ∀i,n≤i→iF KZ i=iF kn i) _ xs.length ?_ ?_ 0 _ (Nat.zero_le _) ⟨fr,lh,[],kn,by rw[kN],H,I,J,K,Ht,Ja,N,E,by rw[Hu];rfl,by rw[List.take_zero,lR];exact iO.nil,oH,fun _ _=>rfl⟩)
 ·rintro k _ C ⟨fr,F,A,KZ,rfl,H,I,J,K,Ht,Ja,N,E,Hu,O,N9,LF⟩
  left
  have iu:(k:Int)<xs.length:=by omega
  have DY:=jR xs
  have hyk:=mj (List.getElem_mem C)
  have hw:=iD (k:=k) (ku (by omega))
  obtain⟨b,cb,rr,iv,jE,oV,hb⟩:=mY ha hx k C
  obtain⟨t,ht⟩:=Zy mK k C
  obtain⟨cf,PE,gZ,Bn,Y,Z⟩:=ih xs[k] (List.getElem_mem C) t KZ _ N9 hb (by omega) (xE.1 tu _ (List.getElem_mem C)) ht
  obtain⟨W,fc,rfl,Ee,XC⟩:=Bn.cells
  have U:A.length=k*3:=by rw[O.len,rq];simp;omega
  generalize hy:comp (mw l) scope xs[k]=y at*
  have ZT:(A++repl [T.i .i64 0,T.i .i64 0,T.nilsl] (xs.length-k)).length=xs.length*3:=by rw[List.length_append,E7,U];simp;omega
  have CV:splice (A++repl [T.i .i64 0,T.i .i64 0,T.nilsl] (xs.length-k)) (k*3) [.i .i64 y.op,.i .i64 y.num,W]=(A++ [.i .i64 y.op,.i .i64 y.num,W])++repl [T.i .i64 0,T.i .i64 0,T.nilsl] (xs.length-(k+1)):=by
   rw[show xs.length-k=(xs.length-(k+1))+1 by omega,BT,E6 A [T.i .i64 0,T.i .i64 0,T.nilsl] _ [T.i .i64 y.op,T.i .i64 y.num,W] (k*3) U rfl]
  have akg:k*3+3≤xs.length*3:=by omega
  simp only[qA,seval,iR,iy,kq,uA,H,I,J,K,Ht,Ja,E,Hu,iu,iv,hw,gZ,sa,tf,jE.kept1,Ee.froz1,C,ZT,CV,akg]
  refine⟨_,rfl,_,_,A++ [.i .i64 y.op,.i .i64 y.num,W],PE,rfl, ?_, ?_, ?_, ?_, ?_, ?_, ?_, ?_, ?_, ?_,Y,fun i hi=>by rw[Z i hi,LF i hi]⟩
  all_goals first|(simp only[qA,seval,H,I,J,K,Ht,N,E];done)|skip
  rw[List.take_succ_eq_append_getElem C,rq,List.map_append,←rq,List.map_cons,hy]
  exact iO.append O (iO.one Bn)
 ·rintro _ ⟨fr,F,A,KZ,rfl,H,I,J,K,Ht,Ja,N,E,Hu,O,N9,LF⟩
  rw[Nat.sub_self,show repl [T.i .i64 0,T.i .i64 0,T.nilsl] 0= []from rfl,List.append_nil]at Hu
  rw[List.take_length]at O
  simp only[qA,seval,uA,Ht,Ja,Int.lt_irrefl]
  exact⟨_,_,jB,rfl,rfl,N,E,⟨A,Hu,O⟩,KZ,rfl,N9,LF⟩
end
section
variable(l:Cs)(lT:T)(R:List gR)(cl:List T)(hl:g8 lT l.length cl)(lM:kD l cl)(hlen:l.length≤oQ)
theorem It(n:Nat)(Gy:n≤l.length)(hc: ∀j,j<n→atQ l lT R j)(scope:Int)(nH:scope=0∨scope=1∨scope=2∨scope=3)(x:Ex):atP l lT R n scope x:=by
 induction x using Ex.ind with
 |h x ih=>
  intro k kn cs N hx hn tu Z
  obtain⟨a,cc,rfl,ha,BB⟩:=hx.cells
  obtain⟨C,h2,jy,IM,AR,Bl⟩:=xJ tu
  have hnd:=x.nodes_eq
  rw[gX ahF (by simp[Ju]),sR]
  by_cases e1:x.op=1
  ·rw[if_pos (.inl e1)]
   simp only[qA,seval,Ju,e1]
   exact⟨_,kn,rfl,oG.of (x:= .mk 1 x.num []) (Or.inl ⟨rfl,rfl,rfl⟩) iO.nil,N,fun _ _=>rfl⟩
  by_cases e2:x.op=2
  ·rw[if_pos (.inr (.inl e2))]
   simp only[qA,seval,Ju,e2]
   exact⟨_,kn,rfl,oG.of (x:= .mk 1 x.num []) (Or.inl ⟨rfl,rfl,rfl⟩) iO.nil,N,fun _ _=>rfl⟩
  by_cases e3:x.op=3
  ·rw[if_pos (.inr (.inr e3))]
   simp only[qA,seval,Ju,e3]
   exact⟨_,kn,rfl,oG.of (x:= .mk 1 x.num []) (Or.inl ⟨rfl,rfl,rfl⟩) iO.nil,N,fun _ _=>rfl⟩
  rw[if_neg (by omega)]
  by_cases e4:x.op=4
  ·rw[if_pos e4]
   simp only[qA,seval,Ju,e4]
   exact⟨_,kn,rfl,oG.of (x:= .mk 1 1 []) (Or.inl ⟨rfl,rfl,rfl⟩) iO.nil,N,fun _ _=>rfl⟩
  rw[if_neg e4]
  by_cases e5:x.op=5
  ·rw[if_pos e5]
   simp only[qA,seval,Ju,e5]
   exact⟨_,kn,rfl,oG.of (x:= .mk 1 0 []) (Or.inl ⟨rfl,rfl,rfl⟩) iO.nil,N,fun _ _=>rfl⟩
  rw[if_neg e5]
  by_cases K:x.op=6
  ·rw[if_pos K]
   rw[Ex.ty_eq,if_pos K]at Z
   have r:=lkS (kP (TA scope) (TA scope).length) x.name
   change _=some (TF (Ma scope x.name))at r
   by_cases hz:ki scope x.name=0
   ·rw[if_neg (by simp[hz])]at Z
    have hp:=(rU scope x.name).2 hz
    rw[hp]at r ⊢
    obtain⟨i,qI,rk,EP,_,_,akv,_⟩:=xK Gy Z
    obtain⟨O,gZ,oj,B8⟩:=hc i rk x.name k kn EP akv N
    simp only[TF]at r
    rcases nH with rfl|rfl|rfl|rfl
    ·change nX _ ((kP [] 0).map _) ((kP [] 0).map _) _ _ _=_ at r
     simp only[qA,seval,kR,kq,Ju,K,I9,ayM,ju,r,gZ,Ox]
     exact⟨_,O,rfl,oG.of (x:= .mk 1 (mw l x.name) []) (Or.inl ⟨rfl,rfl,rfl⟩) iO.nil,oj,fun i hi=>B8 i (by omega)⟩
    ·change nX _ ((kP jb 11).map _) ((kP jb 11).map _) _ _ _=_ at r
     simp only[qA,seval,kR,kq,Ju,K,I9,atL,ju,r,gZ,Ox]
     exact⟨_,O,rfl,oG.of (x:= .mk 1 (mw l x.name) []) (Or.inl ⟨rfl,rfl,rfl⟩) iO.nil,oj,fun i hi=>B8 i (by omega)⟩
    ·change nX _ ((kP lr 25).map _) ((kP lr 25).map _) _ _ _=_ at r
     simp only[qA,seval,kR,kq,Ju,K,I9,atM,ju,r,gZ,Ox]
     exact⟨_,O,rfl,oG.of (x:= .mk 1 (mw l x.name) []) (Or.inl ⟨rfl,rfl,rfl⟩) iO.nil,oj,fun i hi=>B8 i (by omega)⟩
    ·change nX _ ((kP mZ 7).map _) ((kP mZ 7).map _) _ _ _=_ at r
     simp only[qA,seval,kR,kq,Ju,K,I9,atN,ju,r,gZ,Ox]
     exact⟨_,O,rfl,oG.of (x:= .mk 1 (mw l x.name) []) (Or.inl ⟨rfl,rfl,rfl⟩) iO.nil,oj,fun i hi=>B8 i (by omega)⟩
   ·cases hp:Ma scope x.name with
    |none=>exact absurd ((rU scope x.name).1 hp) hz
    |some i=>
     rw[hp]at r
     rw[show TF (some i)= .tup [.i .i64 (i:Int),.b true]from rfl]at r
     have hf:oG (.mk 6 (i:Int) []) [.i .i64 6,.i .i64 (i:Int),.nilsl]:=oG.of (x:= .mk 6 (i:Int) []) (Or.inl ⟨rfl,rfl,rfl⟩) iO.nil
     rcases nH with rfl|rfl|rfl|rfl
     ·exact absurd (mM _) hz
     ·change nX _ ((kP jb 11).map _) ((kP jb 11).map _) _ _ _=_ at r
      simp only[qA,seval,kR,Ju,K,I9,atL,ju,r]
      exact⟨_,kn,rfl,hf,N,fun _ _=>rfl⟩
     ·change nX _ ((kP lr 25).map _) ((kP lr 25).map _) _ _ _=_ at r
      simp only[qA,seval,kR,Ju,K,I9,atM,ju,r]
      exact⟨_,kn,rfl,hf,N,fun _ _=>rfl⟩
     ·change nX _ ((kP mZ 7).map _) ((kP mZ 7).map _) _ _ _=_ at r
      simp only[qA,seval,kR,Ju,K,I9,atN,ju,r]
      exact⟨_,kn,rfl,hf,N,fun _ _=>rfl⟩
  ·rw[if_neg K]
   obtain⟨ts,tI,hr,hk⟩:=xM Z K
   have wD:=jR x.args
   have CJ:x.args.length≤oQ:=ku (by omega)
   have hmk:x.args.length*40≤roomy∧x.args.length≤roomy:=by unfold oQ at CJ;unfold roomy;omega
   have L7:=fun fr lh sh D E C F H Ht Ja I J Hu=>ayO l lT R n scope x.args (fun y hy=>ih y hy) a cc ha BB (by omega) Bl ts tI kn N (.i .i64 x.op) 1 1 ⟨1,.cells [.i .i64 0,.i .i64 0,.nilsl] 0 true⟩ fr lh sh D E C F H Ht Ja I J Hu
   have hL:=fun fr lh sh D E C F H Ht Ja I J Hu=>And.intro (L7 fr lh sh D E C F H Ht Ja I J Hu).1 (And.intro (L7 fr lh sh D E C F H Ht Ja I J Hu).2.1 (And.intro (L7 fr lh sh D E C F H Ht Ja I J Hu).2.2.1 (And.intro (Xy (L7 fr lh sh D E C F H Ht Ja I J Hu).2.2.2.1).1 (ag0 (L7 fr lh sh D E C F H Ht Ja I J Hu).2.2.2.2).1)))
   have hF:=fun fr lh sh D E C F H Ht Ja I J Hu=>(Xy (L7 fr lh sh D E C F H Ht Ja I J Hu).2.2.2.1).2
   have hM:=fun fr lh sh D E C F H Ht Ja I J Hu=>(ag0 (L7 fr lh sh D E C F H Ht Ja I J Hu).2.2.2.2).2
   have U:=fun fr lh sh D E C F H Ht Ja I J Hu=>(hF fr lh sh D E C F H Ht Ja I J Hu).len
   have lM:(lR (mw l) scope x.args).length=x.args.length:=by rw[rq];simp
   rw[lM]at U
   simp only[qA,seval,iR,Bz,iy,qb,Ju,TM,e1,e2,e3,e4,e5,K,ha.lenI,hmk,hL,U]
   generalize hX:Xx _ _=X
   generalize hMX:kL _ _ _ _ _ _=O
   have V:iO (lR (mw l) scope x.args) X:=by
    rw[←hX]
    refine hF _ _ _ rfl ?_ ?_ ?_ ?_ ?_ ?_ ?_ ?_ ?_ <;> simp only[qA,seval]
   have W:oR l O∧ ∀i,n≤i→iF O i=iF kn i:=by
    rw[←hMX]
    refine hM _ _ _ rfl ?_ ?_ ?_ ?_ ?_ ?_ ?_ ?_ ?_ <;> simp only[qA,seval]
   have Y:=V.len
   rw[lM]at Y
   rw[←Y,List.take_length]
   exact⟨_,O,rfl,oG.of (x:= .mk x.op 0 (lR (mw l) scope x.args)) (Or.inr ⟨false,by show T.sl X x.args.length false= .sl X (lR (mw l) scope x.args).length false;rw[lM]⟩) V,W.1,W.2⟩
end
theorem oa{x:Ex}(i:iX x=0):x.nodes≤200∧x.depth≤16:=by
 unfold iX at i
 by_cases h:big x
 ·rw[if_pos h]at i;cases i
 ·unfold big at h;omega
theorem Zz{lh:hJ gR}{sh:List gR}{keep:Bool}{k g wm:Nat}{cs:List T}{bx:Bool}(h:a6 lh k=⟨g,.cells cs wm bx⟩)(i:cs.all froz1=true):fzV lh sh keep (.ptr .L k g 0)=some (.vp cs,[(.L,k,⟨g,.cells cs cs.length bx⟩)]):=by
 unfold fzV iB
 have C:(keep&&Sp.L==Sp.S)=false:=by cases keep <;> rfl
 show Q.run _ _ (if(keep&&Sp.L==Sp.S)=true then _ else _)=_
 rw[C]
 simp only[Bool.false_eq_true,if_false,Q.run]
 have r:(St.mk .nil lh sh).get .L k=⟨g,.cells cs wm bx⟩:=h
 rw[r]
 simp only[if_true,List.drop_zero]
 have:iZ (fz false 7) cs= .ret (cs,[]):=by
  clear h r
  induction cs with
  |nil=>rfl
  |cons c cs ih=>
   rw[List.all_cons,Bool.and_eq_true]at i
   simp only[iZ,wJ i.1,ih i.2,Q.bind,List.append_nil]
 rw[this]
 rfl
theorem const_comp{l:Cs}{s:List Nat}{t:Int}(h:Is l s=(t,0)): ∃i,∃hi:i<l.length,k8 l s=some i∧iX l[i].2=0∧l[i].2.ty (CL l i) 0=(t,0)∧G9 [] (comp (mw l) 0 l[i].2)∧(comp (mw l) 0 l[i].2).val []=mw l s∧mw l s=(tr l l.length).getD i 0:=by
 obtain⟨i,hi,EP,D,J,r,L9,K,_,N⟩:=LO h
 have E:=na D
 have O:=(l[i].2).nodes_eq
 have Y:=oa D
 have U:NO (PX (Is l) 0) (vZ (mw l) 0 []):=by rw[atH,agZ];exact IE l
 obtain⟨V,F,H⟩:=PY U rfl l[i].2 t E (by omega) r
 rw[agZ]at F H
 have W:=(LM (IE l) 0 (fun s=>mM s) l[i].2 t E r).1
 have C:Zt l 0 l[i].2=yc t (l[i].2.val0 (mw l)):=W
 rw[L9]at C
 have X:=(I7 (scope:=0) K).2.2
 have I:=(I7 (scope:=0) H).2.2
 rw[←C,X]at I
 exact⟨i,hi,EP,D,J,V,by rw[F,I],N⟩
section
variable(l:Cs)(lT:T)(R:List gR)(cl:List T)(hl:g8 lT l.length cl)(lM:kD l cl)(hlen:l.length≤oQ)
include hl lM
theorem Iu: ∀j,j<l.length→atQ l lT R j:=by
 intro j
 induction j using Nat.strongRecOn with
 |ind j ih=>
  intro U s t kn EP J K
  obtain⟨j',Se,LR,V,X,Y,E,W⟩:=const_comp J
  rw[EP]at LR
  cases LR
  have C:=lkS (jh l l.length) s
  rw[xR l s l.length (Nat.le_refl _),List.take_length,EP]at C
  rw[show TF (some j)= .tup [.i .i64 (j:Int),.b true]from rfl]at C
  have D:nX (.one .int) (kn.map fun p=>nK p.1) (kn.map fun p=>iV p.2) (.i .i64 (j:Int)) (.i .i64 0) true=_:=aiV (kT:=nK) (vT:=iV) adr (fun _=>rfl) kn j (.i .i64 0)
  rw[gX aek (by simp[QB])]
  cases I:iF kn j with
  |some v=>
   have e:=K j v I
   rw[I]at D
   simp only[show iV v= .i .i64 v from rfl]at D
   rw[W,←e]
   simp only[qA,seval,QB,I9,atJ,atK,ju,C,D]
   exact⟨kn,rfl,K,fun _ _=>rfl⟩
  |none=>
   rw[I]at D
   simp only at D
   obtain⟨b,cb,r,Z,jE,oV,hb⟩:=lL hl lM j U
   obtain⟨cf,F,gZ,Bn,oj,B8⟩:=It l lT R j (Nat.le_of_lt U) (fun i hi=>ih i hi (by omega)) 0 (.inl rfl) l[j].2 t kn _ K hb (oa V).1 (na V) X
   obtain⟨N,fc,rfl,Ee,XC⟩:=Bn.cells
   have H:=IG [] .nilsl (Or.inl ⟨rfl,rfl,rfl⟩) (comp (mw l) 0 l[j].2) N fc [] Ee XC Y
   rw[E]at H
   have tp:iF F j=none:=by rw[B8 j (Nat.le_refl _),I]
   have nF:rB (.one .int) (.i .i64 (j:Int)) (.i .i64 (mw l s)) (F.map fun p=>nK p.1) (F.map fun p=>iV p.2)=_:=Aq (kT:=nK) (vT:=iV) adr F j (mw l s) tp
   generalize comp (mw l) 0 l[j].2=y at*
   have S9:([T.i .i64 y.op,T.i .i64 y.num,N]:List T).all froz1=true:=by simp[Ee.froz1,Al]
   have O:=fun lh sh keep (h:a6 lh 9=⟨1,.cells [.i .i64 y.op,.i .i64 y.num,N] 0 true⟩)=>Zz (sh:=sh) (keep:=keep) h S9
   simp only[qA,seval,kq,QB,I9,atJ,atK,ju,C,D,Z,jE.kept1,gZ,sa,O,aoX,H,ago,nF,atO]
   refine⟨_,rfl, ?_, ?_⟩
   ·intro i v hi
    rw[rm]at hi
    cases Rw:iF F i with
    |some u=>rw[Rw]at hi;cases hi;exact oj i _ Rw
    |none=>
     rw[Rw]at hi
     simp only at hi
     split at hi
     ·rename_i e;subst e;cases hi;exact W
     ·cases hi
   ·intro i hi
    rw[rm,B8 i (by omega)]
    cases iF kn i with
    |some u=>rfl
    |none=>simp only;rw[if_neg (by omega)]
end
end Go.Proofs.YtblcbheipjeoeaaGreat
