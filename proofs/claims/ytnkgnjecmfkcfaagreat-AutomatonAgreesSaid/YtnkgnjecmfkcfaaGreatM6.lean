/- Walks of functions of the program and of the reference, and their plain laws, part 6. Conditions: the theorems' own. -/
import Derived.Test.YtnkgnjecmfkcfaaGreatGS
import Derived.Test.YtnkgnjecmfkcfaaGreatM5
import Derived.KernelRfl
set_option maxRecDepth 100000
set_option linter.unusedSimpArgs false
set_option linter.unusedVariables false
set_option maxHeartbeats 16000000
namespace Go.Proofs.YtnkgnjecmfkcfaaGreat
open Go Go.Ev
def SW(scope:Int):List (List Nat):=if scope=1 then bw else if scope=2 then dZ else if scope=3 then jX else []
theorem axt:ae pE 79 [.i .i64 1] []=some (.sl (strs bw) 11 true,[]):=cW (m:=100) (cS (by kernel_rfl))
theorem aE9:ae pE 79 [.i .i64 2] []=some (.sl (strs dZ) 25 false,[]):=cW (m:=100) (cS (by kernel_rfl))
theorem aFa:ae pE 79 [.i .i64 3] []=some (.sl (strs jX) 7 true,[]):=cW (m:=100) (cS (by kernel_rfl))
theorem aFb:ae pE 79 [.i .i64 0] []=some (.nilsl,[]):=cW (m:=100) (cS (by kernel_rfl))
theorem JU:bw.Nodup:=by decide+kernel
theorem aau:dZ.Nodup:=by decide+kernel
theorem aav:jX.Nodup:=by decide+kernel
theorem EE{α:Type}(d:α): ∀(l:List α) (x:α),mV d l l.length x=l++ [x]
 | [],x=>rfl
 |a::l,x=>by rw[List.length_cons,mV,EE d l x];rfl
theorem Kx{α:Type}(d:α): ∀(l:List α) (x y:α),mV d (l++ [x]) l.length y=l++ [y]
 | [],x,y=>rfl
 |a::l,x,y=>by rw[List.cons_append,List.length_cons,mV,Kx d l x y];rfl
section
variable(lT:T)(m:List (List Nat×Nat))(kn:List (Nat×Int))(c0 c1 c2 c3:T)(ms:List (List (List Nat×Nat)))
theorem cpL:(kl lT m kn c0 c1 c2 c3 ms).length=ms.length+3:=by unfold kl;simp
theorem cpA:bI (kl lT m kn c0 c1 c2 c3 ms) (ms.length+3) ⟨1,.map [] [] false⟩=kl lT m kn c0 c1 c2 c3 (ms++ [[]]):=by
 grind [kl,bI,mV,List.length_map,EE]
theorem cpq(p:List (List Nat×Nat)):aI (kl lT m kn c0 c1 c2 c3 (ms++ [p])) (ms.length+3)=⟨1,.map (p.map fun p=>sK p.1) (p.map fun p=>nK p.2) false⟩:=by
 grind [kl,aI,aH,List.length_map,rE]
theorem aFc(p q:List (List Nat×Nat)):bI (kl lT m kn c0 c1 c2 c3 (ms++ [p])) (ms.length+3) ⟨1,.map (q.map fun p=>sK p.1) (q.map fun p=>nK p.2) false⟩=kl lT m kn c0 c1 c2 c3 (ms++ [q]):=by
 grind [kl,bI,mV,List.length_map,Kx]
theorem GR(D:Nat)(hc:(D=0∧c0= .mp .S (ms.length+3) 1)∨(D=1∧c1= .mp .S (ms.length+3) 1)∨(D=2∧c2= .mp .S (ms.length+3) 1)∨(D=3∧c3= .mp .S (ms.length+3) 1))(ns:List (List Nat))(H:ns.Nodup)(X:ns.length≤100)(v:T)(N:IsSl v ns.length (strs ns))(fr:Fr)(lh:aD ah)(sh:List ah)(O:sh=kl lT m kn c0 c1 c2 c3 (ms++ [[]]))
  (h3:aa fr 3= .ptr .S 2 1 0) (F:aa fr 8= .i .i64 (D:Int)) (D4:aa fr 53=v) (G8:aa fr 54= .i .i64 (ns.length:Int)) (r:aa fr 55= .i .i64 0):
  pT 71 wK fr lh sh (.ext 4)∧
  (iH pE 71 wK fr lh sh=kl lT m kn c0 c1 c2 c3 (ms++ [dJ ns ns.length])):=by
 refine cj (P:=fun Y Z U=>U=kl lT m kn c0 c1 c2 c3 (ms++ [dJ ns ns.length]))
  (cT (fun k st=> ∃(fr:Fr) (I:aD ah),st=⟨fr,I,kl lT m kn c0 c1 c2 c3 (ms++ [dJ ns k])⟩∧aa fr 3= .ptr .S 2 1 0∧aa fr 8= .i .i64 (D:Int)∧aa fr 53=v∧aa fr 54= .i .i64 (ns.length:Int)∧aa fr 55= .i .i64 (k:Int)) _ ns.length ?_ ?_ 0 _ (Nat.zero_le _) ⟨fr,lh,by rw[O];rfl,h3,F,D4,G8,r⟩)
 ·rintro k _ hk ⟨fr,I,rfl,h3,F,D4,G8,r⟩
  left
  have J:(k:Int)<ns.length:=yv
  have V:=aG (k:=k) yv
  have K: ∀kk,iaV v (.i kk (k:Int)) 1=some (.vp (T.s ns[k]::(strs ns).drop (k+1))):=fun kk=>by rw[N.ia (sz:=1) (by rw[Bl];omega) hk,Nat.mul_one,DV ns k hk]
  have W:lF (.one .str) (.s ns[k]) (.i .i64 (k:Int)) ((dJ ns k).map fun p=>sK p.1) ((dJ ns k).map fun p=>nK p.2)=_:=vd (kT:=sK) (vT:=nK) CS (dJ ns k) ns[k] k (aat H hk)
  rw[aas hk]
  rcases hc with⟨rfl,hc⟩|⟨rfl,hc⟩|⟨rfl,hc⟩|⟨rfl,hc⟩ <;>
  (simp only[qA,seval,eO,dx,wK,h3,F,D4,G8,r,J,K,V,cp2,hc,cpq,yj,W,aFc]
   refine⟨_,rfl,_,_,rfl, ?_, ?_, ?_, ?_, ?_⟩ <;> simp only[qA,seval,h3,F,D4,G8])
 ·rintro _ ⟨fr,I,rfl,h3,F,D4,G8,r⟩
  simp only[qA,seval,wK,G8,r,Int.lt_irrefl]
  grind
end
def FX(lT:T)(m:List (List Nat×Nat))(kn:List (Nat×Int)):Nat→List ah
 |0=>kl lT m kn .nilmp .nilmp .nilmp .nilmp []
 |1=>kl lT m kn (.mp .S 3 1) .nilmp .nilmp .nilmp [dJ [] 0]
 |2=>kl lT m kn (.mp .S 3 1) (.mp .S 4 1) .nilmp .nilmp [dJ [] 0,dJ bw 11]
 |3=>kl lT m kn (.mp .S 3 1) (.mp .S 4 1) (.mp .S 5 1) .nilmp [dJ [] 0,dJ bw 11,dJ dZ 25]
 |_=>kl lT m kn (.mp .S 3 1) (.mp .S 4 1) (.mp .S 5 1) (.mp .S 6 1) [dJ [] 0,dJ bw 11,dJ dZ 25,dJ jX 7]
theorem ant(lT:T)(m:List (List Nat×Nat))(kn:List (Nat×Int))(fr:Fr)(lh:aD ah)(h3:aa fr 3= .ptr .S 2 1 0)(KP:aa fr 43= .i .i64 0):
  ∃r F,DC pE 71 ju ⟨fr,lh,FX lT m kn 0⟩=some (.nrm,⟨r,F,FX lT m kn 1⟩)∧aa r 3= .ptr .S 2 1 0∧aa r 43= .i .i64 1:=by
 have H:bI (kl lT m kn .nilmp .nilmp .nilmp .nilmp []) 3 ⟨1,.map [] [] false⟩=kl lT m kn .nilmp .nilmp .nilmp .nilmp [[]]:=cpA lT m kn .nilmp .nilmp .nilmp .nilmp []
 have kg:(kl lT m kn .nilmp .nilmp .nilmp .nilmp []).length=3:=cpL lT m kn .nilmp .nilmp .nilmp .nilmp []
 have D:=fun fr lh sh h1 h2 h3 h4 h5 h6=>GR lT m kn (.mp .S 3 1) .nilmp .nilmp .nilmp [] 0 xv [] List.nodup_nil xW .nilsl (Or.inl ⟨rfl,rfl,rfl⟩) fr lh sh h1 h2 h3 h4 h5 h6
 change ∀fr lh sh,sh=kl lT m kn (.mp .S 3 1) .nilmp .nilmp .nilmp [[]]→aa fr 3= .ptr .S 2 1 0→aa fr 8= .i .i64 0→aa fr 53= .nilsl→aa fr 54= .i .i64 0→aa fr 55= .i .i64 0→_ at D
 have I:=fun lh=>iU (lh:=lh) (sh:=kl lT m kn .nilmp .nilmp .nilmp .nilmp [[]]) (k:=2) (g:=1) (off:=3) (m:=1) (v:= .mp .S 3 1) uZ (cp2 lT m kn .nilmp .nilmp .nilmp .nilmp [[]])
 unfold FX
 simp only[qA,seval,eO,eJ,ju,jN,h3,KP,kg,H,I,afy,aFb,UA,D]
 first|done|refine⟨_,_,rfl, ?_, ?_⟩ <;> simp only[qA,seval,h3,jN]
theorem anu(lT:T)(m:List (List Nat×Nat))(kn:List (Nat×Int))(fr:Fr)(lh:aD ah)(h3:aa fr 3= .ptr .S 2 1 0)(KP:aa fr 43= .i .i64 1):
  ∃r F,DC pE 71 ju ⟨fr,lh,FX lT m kn 1⟩=some (.nrm,⟨r,F,FX lT m kn 2⟩)∧aa r 3= .ptr .S 2 1 0∧aa r 43= .i .i64 2:=by
 have H:bI (kl lT m kn (.mp .S 3 1) .nilmp .nilmp .nilmp [dJ [] 0]) 4 ⟨1,.map [] [] false⟩=kl lT m kn (.mp .S 3 1) .nilmp .nilmp .nilmp [dJ [] 0,[]]:=cpA lT m kn (.mp .S 3 1) .nilmp .nilmp .nilmp [dJ [] 0]
 have kg:(kl lT m kn (.mp .S 3 1) .nilmp .nilmp .nilmp [dJ [] 0]).length=4:=cpL lT m kn (.mp .S 3 1) .nilmp .nilmp .nilmp [dJ [] 0]
 have D:=fun fr lh sh h1 h2 h3 h4 h5 h6=>GR lT m kn (.mp .S 3 1) (.mp .S 4 1) .nilmp .nilmp [dJ [] 0] 1 xv bw JU xW (.sl (strs bw) 11 true) (Or.inr ⟨true,rfl⟩) fr lh sh h1 h2 h3 h4 h5 h6
 change ∀fr lh sh,sh=kl lT m kn (.mp .S 3 1) (.mp .S 4 1) .nilmp .nilmp [dJ [] 0,[]]→aa fr 3= .ptr .S 2 1 0→aa fr 8= .i .i64 1→aa fr 53=(.sl (strs bw) 11 true)→aa fr 54= .i .i64 11→aa fr 55= .i .i64 0→_ at D
 have I:=fun lh=>iU (lh:=lh) (sh:=kl lT m kn (.mp .S 3 1) .nilmp .nilmp .nilmp [dJ [] 0,[]]) (k:=2) (g:=1) (off:=4) (m:=1) (v:= .mp .S 4 1) uZ (cp2 lT m kn (.mp .S 3 1) .nilmp .nilmp .nilmp [dJ [] 0,[]])
 unfold FX
 simp only[qA,seval,eO,eJ,ju,jN,h3,KP,kg,H,I,afy,axt,UA,D]
 first|done|refine⟨_,_,rfl, ?_, ?_⟩ <;> simp only[qA,seval,h3,jN]
theorem anv(lT:T)(m:List (List Nat×Nat))(kn:List (Nat×Int))(fr:Fr)(lh:aD ah)(h3:aa fr 3= .ptr .S 2 1 0)(KP:aa fr 43= .i .i64 2):
  ∃r F,DC pE 71 ju ⟨fr,lh,FX lT m kn 2⟩=some (.nrm,⟨r,F,FX lT m kn 3⟩)∧aa r 3= .ptr .S 2 1 0∧aa r 43= .i .i64 3:=by
 have H:bI (kl lT m kn (.mp .S 3 1) (.mp .S 4 1) .nilmp .nilmp [dJ [] 0,dJ bw 11]) 5 ⟨1,.map [] [] false⟩=kl lT m kn (.mp .S 3 1) (.mp .S 4 1) .nilmp .nilmp [dJ [] 0,dJ bw 11,[]]:=cpA lT m kn (.mp .S 3 1) (.mp .S 4 1) .nilmp .nilmp [dJ [] 0,dJ bw 11]
 have kg:(kl lT m kn (.mp .S 3 1) (.mp .S 4 1) .nilmp .nilmp [dJ [] 0,dJ bw 11]).length=5:=cpL lT m kn (.mp .S 3 1) (.mp .S 4 1) .nilmp .nilmp [dJ [] 0,dJ bw 11]
 have D:=fun fr lh sh h1 h2 h3 h4 h5 h6=>GR lT m kn (.mp .S 3 1) (.mp .S 4 1) (.mp .S 5 1) .nilmp [dJ [] 0,dJ bw 11] 2 xv dZ aau xW (.sl (strs dZ) 25 false) (Or.inr ⟨false,rfl⟩) fr lh sh h1 h2 h3 h4 h5 h6
 change ∀fr lh sh,sh=kl lT m kn (.mp .S 3 1) (.mp .S 4 1) (.mp .S 5 1) .nilmp [dJ [] 0,dJ bw 11,[]]→aa fr 3= .ptr .S 2 1 0→aa fr 8= .i .i64 2→aa fr 53=(.sl (strs dZ) 25 false)→aa fr 54= .i .i64 25→aa fr 55= .i .i64 0→_ at D
 have I:=fun lh=>iU (lh:=lh) (sh:=kl lT m kn (.mp .S 3 1) (.mp .S 4 1) .nilmp .nilmp [dJ [] 0,dJ bw 11,[]]) (k:=2) (g:=1) (off:=5) (m:=1) (v:= .mp .S 5 1) uZ (cp2 lT m kn (.mp .S 3 1) (.mp .S 4 1) .nilmp .nilmp [dJ [] 0,dJ bw 11,[]])
 unfold FX
 simp only[qA,seval,eO,eJ,ju,jN,h3,KP,kg,H,I,afy,aE9,UA,D]
 first|done|refine⟨_,_,rfl, ?_, ?_⟩ <;> simp only[qA,seval,h3,jN]
theorem anw(lT:T)(m:List (List Nat×Nat))(kn:List (Nat×Int))(fr:Fr)(lh:aD ah)(h3:aa fr 3= .ptr .S 2 1 0)(KP:aa fr 43= .i .i64 3):
  ∃r F,DC pE 71 ju ⟨fr,lh,FX lT m kn 3⟩=some (.nrm,⟨r,F,FX lT m kn 4⟩)∧aa r 3= .ptr .S 2 1 0∧aa r 43= .i .i64 4:=by
 have H:bI (kl lT m kn (.mp .S 3 1) (.mp .S 4 1) (.mp .S 5 1) .nilmp [dJ [] 0,dJ bw 11,dJ dZ 25]) 6 ⟨1,.map [] [] false⟩=kl lT m kn (.mp .S 3 1) (.mp .S 4 1) (.mp .S 5 1) .nilmp [dJ [] 0,dJ bw 11,dJ dZ 25,[]]:=cpA lT m kn (.mp .S 3 1) (.mp .S 4 1) (.mp .S 5 1) .nilmp [dJ [] 0,dJ bw 11,dJ dZ 25]
 have kg:(kl lT m kn (.mp .S 3 1) (.mp .S 4 1) (.mp .S 5 1) .nilmp [dJ [] 0,dJ bw 11,dJ dZ 25]).length=6:=cpL lT m kn (.mp .S 3 1) (.mp .S 4 1) (.mp .S 5 1) .nilmp [dJ [] 0,dJ bw 11,dJ dZ 25]
 have D:=fun fr lh sh h1 h2 h3 h4 h5 h6=>GR lT m kn (.mp .S 3 1) (.mp .S 4 1) (.mp .S 5 1) (.mp .S 6 1) [dJ [] 0,dJ bw 11,dJ dZ 25] 3 xv jX aav xW (.sl (strs jX) 7 true) (Or.inr ⟨true,rfl⟩) fr lh sh h1 h2 h3 h4 h5 h6
 change ∀fr lh sh,sh=kl lT m kn (.mp .S 3 1) (.mp .S 4 1) (.mp .S 5 1) (.mp .S 6 1) [dJ [] 0,dJ bw 11,dJ dZ 25,[]]→aa fr 3= .ptr .S 2 1 0→aa fr 8= .i .i64 3→aa fr 53=(.sl (strs jX) 7 true)→aa fr 54= .i .i64 7→aa fr 55= .i .i64 0→_ at D
 have I:=fun lh=>iU (lh:=lh) (sh:=kl lT m kn (.mp .S 3 1) (.mp .S 4 1) (.mp .S 5 1) .nilmp [dJ [] 0,dJ bw 11,dJ dZ 25,[]]) (k:=2) (g:=1) (off:=6) (m:=1) (v:= .mp .S 6 1) uZ (cp2 lT m kn (.mp .S 3 1) (.mp .S 4 1) (.mp .S 5 1) .nilmp [dJ [] 0,dJ bw 11,dJ dZ 25,[]])
 unfold FX
 simp only[qA,seval,eO,eJ,ju,jN,h3,KP,kg,H,I,afy,aFa,UA,D]
 first|done|refine⟨_,_,rfl, ?_, ?_⟩ <;> simp only[qA,seval,h3,jN]
theorem aFd(lT:T)(m:List (List Nat×Nat))(fr:Fr)(lh:aD ah)(sh:List ah)(I:sh=kl lT m [] .nilmp .nilmp .nilmp .nilmp [])(h3:aa fr 3= .ptr .S 2 1 0)(KP:aa fr 43= .i .i64 0):
  pT 71 ju fr lh sh (.ext 2)∧
  (iH pE 71 ju fr lh sh=FX lT m [] 4):=by
 refine cj (P:=fun D F J=>J=FX lT m [] 4)
  (cT (fun k st=> ∃(fr:Fr) (H:aD ah),st=⟨fr,H,FX lT m [] k⟩∧aa fr 3= .ptr .S 2 1 0∧aa fr 43= .i .i64 (k:Int)) _ 4 ?_ ?_ 0 _ (Nat.zero_le _) ⟨fr,lh,by rw[I];rfl,h3,KP⟩)
 ·rintro k _ hk ⟨fr,H,rfl,h3,KP⟩
  left
  have hc:k=0∨k=1∨k=2∨k=3:=yv
  rcases hc with rfl|rfl|rfl|rfl
  ·obtain⟨D,F,h,r,MX⟩:=ant lT m [] fr H h3 KP
   exact⟨_,h,D,F,rfl,r,MX⟩
  ·obtain⟨D,F,h,r,MX⟩:=anu lT m [] fr H h3 KP
   exact⟨_,h,D,F,rfl,r,MX⟩
  ·obtain⟨D,F,h,r,MX⟩:=anv lT m [] fr H h3 KP
   exact⟨_,h,D,F,rfl,r,MX⟩
  ·obtain⟨D,F,h,r,MX⟩:=anw lT m [] fr H h3 KP
   exact⟨_,h,D,F,rfl,r,MX⟩
 ·rintro _ ⟨fr,H,rfl,h3,KP⟩
  simp only[qA,seval,ju,KP]
  exact⟨_,_,sV,rfl,rfl,rfl⟩
section
variable(l:Cs)(lT:T)(cl:List T)(hl:IsSl lT l.length cl)(hcl:dn l cl)(hlen:l.length≤jY)
include hl hcl hlen
theorem alN:ae pE 72 [lT] []=some (.ptr .S 2 1 0,FX lT (bH l l.length) [] 4):=by
 have r:=fun fr lh sh=>aE8 l lT cl hl hcl hlen fr lh sh
 have D:=fun fr lh sh=>aFd lT (bH l l.length) fr lh sh
 rw[ayo]at r
 rw[au as0 (by simp[c72])]
 simp only[qA,seval,eJ,dx,c72,Ta,S9,hl.lenI,hl.cells,hl.noTup,hl.kept1,r,D]
end
def KJ(scope:Int)(s:List Nat):Option Nat:=aM (dJ (SW scope) (SW scope).length) s
theorem Cd{s:List Nat}: ∀{m:List (List Nat×Nat)},aM m s=none↔ ∀p∈m,p.1≠s
 | []=>by simp[aM]
 |p::m=>by
  rw[aM]
  by_cases h:s=p.1
  ·grind
  ·rw[if_neg h,Cd (m:=m)]
   grind
theorem afz{ns:List (List Nat)}{s:List Nat}:aM (dJ ns ns.length) s=none↔s∉ns:=by
 rw[Cd]
 unfold dJ
 rw[List.take_length]
 constructor
 ·intro h hs
  obtain⟨i,hi,e⟩:=List.getElem_of_mem hs
  exact h (ns[i],i) (List.mk_mem_zipIdx_iff_getElem?.2 (by rw[List.getElem?_eq_getElem hi])) e
 grind
theorem Ky{ns:List (List Nat)}{s:List Nat}{i:Nat}: ∀{m:List (List Nat×Nat)},aM m s=some i→(s,i)∈m
 | [],h=>by simp[aM]at h
 |p::m,h=>by
  rw[aM]at h
  by_cases e:s=p.1
  ·grind
  ·rw[if_neg e]at h
   exact List.mem_cons_of_mem _ (Ky (ns:=ns) h)
theorem anz{scope:Int}{s:List Nat}{i:Nat}(h:KJ scope s=some i):(SW scope)[i]? =some s:=by
 have r:=Ky (ns:=SW scope) h
 grind [dJ]
theorem xJ(s:List Nat):kJ s≠0↔s∈bw:=by
 constructor
 ·intro h
  by_cases r:s∈bw
  ·exact r
  simp_all[bw,List.mem_cons,List.not_mem_nil,kJ,adN,adO,adP]
 ·intro h
  simp only[bw,List.mem_cons,List.not_mem_nil,or_false]at h
  rcases h with rfl|rfl|rfl|rfl|rfl|rfl|rfl|rfl|rfl|rfl|rfl <;> decide
theorem Sw(s:List Nat):vf s≠0↔s∈jX:=by
 grind [jX,vf,Oc,Od]
theorem Sx(s:List Nat):vg s≠0↔s∈dZ:=by
 constructor
 ·intro h
  rw[vg]at h
  by_cases h1:s= [114,101,115,116]
  ·subst h1;decide
  by_cases h2:s= [110,105,103,104,116,115]
  ·subst h2;decide
  by_cases h3:s= [104,111,109,101]
  ·subst h3;decide
  rw[if_neg h1,if_neg h2,if_neg h3]at h
  by_cases h4:pa KF s
  ·rw[if_pos h4,xJ]at h
   have e:s=KF++s.drop 7:=by rw[←((Bn s).1 h4).2,List.take_append_drop]
   rw[e]
   generalize s.drop 7=d at h
   simp only[bw,List.mem_cons,List.not_mem_nil,or_false]at h
   rcases h with rfl|rfl|rfl|rfl|rfl|rfl|rfl|rfl|rfl|rfl|rfl <;> decide
  ·rw[if_neg h4]at h
   by_cases h5:pa LV s
   ·rw[if_pos h5,xJ]at h
    have e:s=LV++s.drop 6:=by rw[←((Bo s).1 h5).2,List.take_append_drop]
    rw[e]
    generalize s.drop 6=d at h
    simp only[bw,List.mem_cons,List.not_mem_nil,or_false]at h
    rcases h with rfl|rfl|rfl|rfl|rfl|rfl|rfl|rfl|rfl|rfl|rfl <;> decide
   ·rw[if_neg h5]at h;exact absurd rfl h
 ·intro hs
  simp only[dZ,List.mem_cons,List.not_mem_nil,or_false]at hs
  rcases hs with rfl|rfl|rfl|rfl|rfl|rfl|rfl|rfl|rfl|rfl|rfl|rfl|rfl|rfl|rfl|rfl|rfl|rfl|rfl|rfl|rfl|rfl|rfl|rfl|rfl <;> decide
theorem Sy(scope:Int)(s:List Nat):dB scope s≠0↔s∈SW scope:=by
 grind [dB,SW,xJ,Sx,Sw]
theorem lW(scope:Int)(s:List Nat):KJ scope s=none↔dB scope s=0:=by
 unfold KJ
 rw[afz,←Sy]
 grind
mutual
def comp(r:List Nat→Int)(scope:Int):Ex→Fm
 | .mk op num name args=>if op=1∨op=2∨op=3 then .mk 1 num []else if op=4 then .mk 1 1 []else if op=5 then .mk 1 0 []else if op=6 then(match KJ scope name with|some i=> .mk 6 (i:Int) []|none=> .mk 1 (r name) [])else .mk op 0 (eQ r scope args)
def eQ(r:List Nat→Int)(scope:Int):List Ex→List Fm
 | []=> []
 |x::xs=>comp r scope x::eQ r scope xs
end
theorem mK(r:List Nat→Int)(scope:Int)(x:Ex):comp r scope x=if x.op=1∨x.op=2∨x.op=3 then .mk 1 x.num []else if x.op=4 then .mk 1 1 []else if x.op=5 then .mk 1 0 []else if x.op=6 then(match KJ scope x.name with|some i=> .mk 6 (i:Int) []|none=> .mk 1 (r x.name) [])else .mk x.op 0 (eQ r scope x.args):=by obtain⟨_,_,_,_⟩:=x;rw[comp];rfl
theorem lE(r:List Nat→Int)(scope:Int): ∀xs,eQ r scope xs=xs.map (comp r scope)
 | []=>rfl
 |x::xs=>by simp_all[eQ,lE]
def OI(cl:List Nat→Int×Int)(scope:Int)(s:List Nat):Int×Int:=if dB scope s≠0 then(dB scope s,0)else cl s
def pX(D:List Nat→Int)(scope:Int)(r:List Int)(s:List Nat):Int:=match KJ scope s with|some i=>r.getD i 0|none=>D s
theorem Zn(cl:List Nat→Int×Int)(scope:Int)(x:Ex):x.ty cl scope=x.ty (OI cl scope) 0:=by
 induction x using Ex.ind with
 |h x ih=>
  rw[Ex.ty_eq,Ex.ty_eq (cl:=OI cl scope)]
  have hl:kK cl scope x.args=kK (OI cl scope) 0 x.args:=by
   generalize x.args=xs at ih
   induction xs with
   |nil=>rfl
   |cons y F r=>
    rw[kK,kK,ih y xv,r fun z D=>ih z (by simp[D])]
  grind [OI,jL]
theorem ayq(cl:List Nat→Int×Int):OI cl 0=cl:=by
 grind [OI,jL]
theorem ayr(s:List Nat):KJ 0 s=none:=(lW 0 s).2 (jL s)
theorem aiT(D:List Nat→Int)(r:List Int):pX D 0 r=D:=by
 grind [pX,ayr]
theorem OJ{cl:List Nat→Int×Int}{D:List Nat→Int}{scope:Int}{r:List Int}(hc:Mm (OI cl scope) (pX D scope r))(dh:r.length=(SW scope).length)(x:Ex): ∀k,x.wf=true→fW x.args≤100000→x.ty cl scope=(k,0)→Hc r (comp D scope x)∧(comp D scope x).val r=x.val0 (pX D scope r)∧BM k (x.val0 (pX D scope r)):=by
 induction x using Ex.ind with
 |h x ih=>
  intro k V hn N
  have W:BM k (x.val0 (pX D scope r)):=by
   rw[Zn]at N
   exact(Kv hc 0 (fun s=>jL s) x k V N).2
  refine and_assoc.1 ⟨?_,W⟩
  obtain⟨h1,h2,X,C0,sG,O⟩:=vQ V
  have Y:=aao W
  have F: ∀f v,comp D scope x=f→x.val0 (pX D scope r)=v→(bd v→Hc r f∧f.val r=v)→Hc r (comp D scope x)∧(comp D scope x).val r=x.val0 (pX D scope r):=by
   rintro f v rfl e h
   rw[e]at Y ⊢
   exact h Y
  have U: ∀n,bd n→Hc r (.mk 1 n [])∧(Fm.mk 1 n []).val r=n:=fun n J=>⟨(GN _ _).2 (.inl ⟨rfl,J⟩),by rw[Fm.val_eq];rfl⟩
  by_cases I:x.op=1∨x.op=2∨x.op=3
  ·exact F _ _ (by rw[mK,if_pos I]) (by rw[Ex.val0_eq,if_neg yv,if_pos I]) (U _)
  by_cases h4:x.op=4
  ·exact F _ _ (by rw[mK,if_neg I,if_pos h4]) (by rw[Ex.val0_eq,if_neg yv,if_neg I,if_pos h4]) (U _)
  by_cases h5:x.op=5
  ·exact F _ _ (by rw[mK,if_neg I,if_neg h4,if_pos h5]) (by rw[Ex.val0_eq,if_neg yv,if_neg I,if_neg h4,if_pos h5]) (U _)
  by_cases h6:x.op=6
  ·cases K:KJ scope x.name with
   |none=>exact F _ _ (by rw[mK,if_neg I,if_neg h4,if_neg h5,if_pos h6,K]) (by rw[Ex.val0_eq,if_pos h6,pX,K]) (U _)
   |some i=>
    have hi:=anz K
    have lZ:i<(SW scope).length:=(List.getElem?_eq_some_iff.1 hi).1
    refine F (.mk 6 (i:Int) []) (r.getD i 0) (by rw[mK,if_neg I,if_neg h4,if_neg h5,if_pos h6,K]) (by rw[Ex.val0_eq,if_pos h6,pX,K]) fun J=>⟨(GN _ _).2 (.inr (.inl ⟨rfl,Int.natCast_nonneg i, ?_,J⟩)),by rw[Fm.val_eq];rfl⟩
    show(i:Int).toNat<r.length
    rw[Int.toNat_natCast,dh];exact lZ
  ·refine F _ _ (by rw[mK,if_neg I,if_neg h4,if_neg h5,if_neg h6]) (by rw[Ex.val0_eq,if_neg h6,if_neg I,if_neg h4,if_neg h5]) fun J=> ?_
   have h7:7≤x.op:=yv
   obtain⟨ts,H,hr,hk⟩:=vS N h6
   have hlen:ts.length=x.args.length:=vU H
   have yV:=fX x.args
   have Z:Cb r (eQ D scope x.args)∧eW r (eQ D scope x.args)=fE (pX D scope r) x.args∧wg ts (fE (pX D scope r) x.args):=by
    clear N X hr V C0 sG hlen Y W yV F J
    generalize x.args=xs at ih H O hn
    induction xs generalizing ts with
    |nil=>rw[kK]at H;cases H;exact⟨by rw[eQ,Cb];trivial,by rw[eQ,eW,fE],trivial⟩
    |cons z zs ihz=>
     obtain⟨t,us,rfl,e1,e2⟩:=oh H
     rw[FF,Bool.and_eq_true]at O
     rw[fW]at hn
     have hz:=z.nodes_eq
     obtain⟨f1,f2,f3⟩:=ih z xv t O.1 yv e1
     obtain⟨g1,g2,g3⟩:=ihz us (fun y hy=>ih y (by simp[hy])) e2 O.2 yv
     rw[eQ,eW,fE,Cb,f2,g2]
     exact⟨⟨f1,g1⟩,rfl,f3,g3⟩
   obtain⟨i1,i2,i3⟩:=Z
   have hcl:(eQ D scope x.args).length=x.args.length:=by rw[lE,List.length_map]
   obtain⟨hv,_⟩:=Zl i3 h7 h2 (by rw[hlen];exact X) hr hk
   refine⟨(GN _ _).2 (.inr (.inr ⟨h7,h2,by show dG x.op (eQ D scope x.args).length=true;rw[hcl];exact X,by show(eQ D scope x.args).length≤jY;rw[hcl];exact gH yv,i1,by show vOk x.op (eW r (eQ D scope x.args));rw[i2];exact hv⟩)), ?_⟩
   rw[Fm.val_eq]
   show(if x.op=1 then(0:Int)else if x.op=6 then r.getD (0:Int).toNat 0 else FH x.op (eW r (eQ D scope x.args)))=FH x.op (fE (pX D scope r) x.args)
   rw[if_neg yv,if_neg h6,i2]
def eA(lT:T)(m:List (List Nat×Nat))(kn:List (Nat×Int))(R:List ah):List ah:=FX lT m kn 4++R
section
variable(lT:T)(m:List (List Nat×Nat))(kn:List (Nat×Int))(R:List ah)
theorem ays:aI (eA lT m kn R) 0=⟨1,.map (m.map fun p=>sK p.1) (m.map fun p=>nK p.2) false⟩:=nr rfl
theorem ayt:aI (eA lT m kn R) 1=⟨1,.map (kn.map fun p=>nK p.1) (kn.map fun p=>iV p.2) false⟩:=nr rfl
theorem GS:aI (eA lT m kn R) 2=⟨1,.cells [lT,.mp .S 0 1,.mp .S 1 1,.mp .S 3 1,.mp .S 4 1,.mp .S 5 1,.mp .S 6 1] 0 true⟩:=nr rfl
theorem aFe:aI (eA lT m kn R) 3=⟨1,.map ((dJ [] 0).map fun p=>sK p.1) ((dJ [] 0).map fun p=>nK p.2) false⟩:=nr rfl
theorem ayu:aI (eA lT m kn R) 4=⟨1,.map ((dJ bw 11).map fun p=>sK p.1) ((dJ bw 11).map fun p=>nK p.2) false⟩:=nr rfl
theorem ayv:aI (eA lT m kn R) 5=⟨1,.map ((dJ dZ 25).map fun p=>sK p.1) ((dJ dZ 25).map fun p=>nK p.2) false⟩:=nr rfl
theorem ayw:aI (eA lT m kn R) 6=⟨1,.map ((dJ jX 7).map fun p=>sK p.1) ((dJ jX 7).map fun p=>nK p.2) false⟩:=nr rfl
theorem ayx(r:List (Nat×Int)):bI (eA lT m kn R) 1 ⟨1,.map (r.map fun p=>nK p.1) (r.map fun p=>iV p.2) false⟩=eA lT m r R:=nr rfl
end
def kOf:List ah→List (Nat×Int)
 |_::⟨_,.map ks r _⟩::_=>(ks.zip r).map fun p=>((match p.1 with| .i _ n=>n.toNat|_=>0),(match p.2 with| .i _ n=>n|_=>0))
 |_=> []
theorem anA(lT:T)(m:List (List Nat×Nat))(R:List ah): ∀kn,kOf (eA lT m kn R)=kn:=by
 intro kn
 unfold kOf eA FX kl
 simp only[List.cons_append]
 induction kn with
 |nil=>rfl
 |cons p kn ih=>rw[List.map_cons,List.map_cons,List.zip_cons_cons,List.map_cons,ih];obtain⟨a,b⟩:=p;simp[nK,iV]
noncomputable def kL(E:Env)(n:Nat)(a:ak)(fr:Fr)(lh:aD ah)(sh:List ah):List (Nat×Int):=kOf (iH E n a fr lh sh)
theorem aiU{E:Env}{n:Nat}{a:ak}{fr:Fr}{lh:aD ah}{sh:List ah}{lT:T}{m:List (List Nat×Nat)}{R:List ah}{P:List (Nat×Int)→Prop}(h: ∃kn,iH E n a fr lh sh=eA lT m kn R∧P kn):iH E n a fr lh sh=eA lT m (kL E n a fr lh sh) R∧P (kL E n a fr lh sh):=by
 obtain⟨kn,h1,h2⟩:=h
 have:kL E n a fr lh sh=kn:=by unfold kL;rw[h1,anA]
 rw[this];exact⟨h1,h2⟩
theorem aaw{cl:List Nat→Int×Int}{scope:Int}: ∀{xs:List Ex} {ts:List Int},kK cl scope xs= .ok ts→ ∀(k:Nat) (hk:k<xs.length),∃t,xs[k].ty cl scope=(t,0)
 | [],ts,h,k,hk=>by simp at hk
 |x::xs,ts,h,k,hk=>by
  obtain⟨t,us,rfl,e1,e2⟩:=oh h
  cases k with
  |zero=>exact⟨t,e1⟩
  |succ k=>exact aaw e2 k (by simpa using hk)
section
variable(l:Cs)(lT:T)(R:List ah)(cl:List T)(hl:IsSl lT l.length cl)(hcl:dn l cl)(hlen:l.length≤jY)
def jg(kn:List (Nat×Int)):Prop:= ∀i v,aM kn i=some v→v=(sF l l.length).getD i 0
def ayy(n:Nat)(scope:Int)(y:Ex):Prop:= ∀k kn cs,jg l kn→jA y cs→y.nodes≤200→y.wf=true→y.ty (CL l n) scope=(k,0)→
 ∃D r,ae pE 73 [.ptr .S 2 1 0,.i .i64 scope,.agg cs] (eA lT (bH l l.length) kn R)=some (.agg D,eA lT (bH l l.length) r R)∧ja (comp (fC l) scope y) D∧jg l r∧ ∀i,n≤i→aM r i=aM kn i
def ayz(j:Nat):Prop:= ∀s t kn,fj l s=some j→FR l s=(t,0)→jg l kn→ ∃r,ae pE 134 [.ptr .S 2 1 0,.s s] (eA lT (bH l l.length) kn R)=some (.i .i64 (fC l s),eA lT (bH l l.length) r R)∧jg l r∧ ∀i,j<i→aM r i=aM kn i
theorem aFg(n:Nat)(scope:Int)(xs:List Ex)(ih: ∀y∈xs,ayy l lT R n scope y)(a:T)(cc:List T)(ha:IsSl a xs.length cc)(hx:cu xs cc)(hn:fW xs≤200)(zD:FF xs=true)(ts:List Int)(V:kK (CL l n) scope xs= .ok ts)(kn:List (Nat×Int))(jj:jg l kn)(op:T)(g D:Nat)(O:ah)(fr:Fr)(lh:aD ah)(sh:List ah)(ft:sh=eA lT (bH l l.length) kn R)
  (h0:aa fr 0= .ptr .S 2 1 0) (h1:aa fr 1= .i .i64 scope) (I:aa fr 9= .ptr .L 9 D 0) (AH:aa fr 63=a) (EF:aa fr 64= .i .i64 (xs.length:Int)) (GU:aa fr 65= .i .i64 0) (J:ab lh 6=O) (F:ab lh 9=⟨D,.cells [op,.i .i64 0,.isl .L 60 g 0 xs.length 3] 0 true⟩) (EG:ab lh 60=⟨g,.cells (repl [.i .i64 0,.i .i64 0,.nilsl] xs.length) 0 false⟩):
  pT 80 ot fr lh sh (.ext 1)∧
  (ab (im pE 80 ot fr lh sh) 6=O∧ab (im pE 80 ot fr lh sh) 9=⟨D,.cells [op,.i .i64 0,.isl .L 60 g 0 xs.length 3] 0 true⟩∧(∃cs,ab (im pE 80 ot fr lh sh) 60=⟨g,.cells cs 0 false⟩∧bf (eQ (fC l) scope xs) cs)∧
    (∃r,iH pE 80 ot fr lh sh=eA lT (bH l l.length) r R∧jg l r∧ ∀i,n≤i→aM r i=aM kn i)):=by
 refine cj (P:=fun bK W aX=>ab W 6=O∧ab W 9=⟨D,.cells [op,.i .i64 0,.isl .L 60 g 0 xs.length 3] 0 true⟩∧(∃cs,ab W 60=⟨g,.cells cs 0 false⟩∧bf (eQ (fC l) scope xs) cs)∧(∃r,aX=eA lT (bH l l.length) r R∧jg l r∧ ∀i,n≤i→aM r i=aM kn i))
  (cT (fun k st=> ∃(fr:Fr) (H:aD ah) (A:List T) (Jq:List (Nat×Int)),st=⟨fr,H,eA lT (bH l l.length) Jq R⟩∧aa fr 0= .ptr .S 2 1 0∧aa fr 1= .i .i64 scope∧aa fr 9= .ptr .L 9 D 0∧aa fr 63=a∧aa fr 64= .i .i64 (xs.length:Int)∧aa fr 65= .i .i64 (k:Int)∧ab H 6=O∧ab H 9=⟨D,.cells [op,.i .i64 0,.isl .L 60 g 0 xs.length 3] 0 true⟩∧
    ab H 60=⟨g,.cells (A++repl [.i .i64 0,.i .i64 0,.nilsl] (xs.length-k)) 0 false⟩∧bf (eQ (fC l) scope (xs.take k)) A∧jg l Jq∧ ∀i,n≤i→aM Jq i=aM kn i) _ xs.length ?_ ?_ 0 _ (Nat.zero_le _) ⟨fr,lh,[],kn,by rw[ft],h0,h1,I,AH,EF,GU,J,F,by rw[EG];rfl,by rw[List.take_zero,eQ];exact bf.nil,jj,fun _ _=>rfl⟩)
 ·rintro k _ hk ⟨fr,H,A,Jq,rfl,h0,h1,I,AH,EF,GU,J,F,EG,K,MQ,Ko⟩
  left
  have X:(k:Int)<xs.length:=yv
  have VL:=fX xs
  have hyk:=lP (List.getElem_mem hk)
  have hw:=be (k:=k) (gH yv)
  obtain⟨b,cb,rr,Y,fL,rP,hb⟩:=oZ ha hx k hk
  obtain⟨t,ht⟩:=aaw V k hk
  obtain⟨cf,Oq,aE,wY,Z,Mu⟩:=ih xs[k] (List.getElem_mem hk) t Jq _ MQ hb yv (zg.1 zD _ (List.getElem_mem hk)) ht
  obtain⟨U,fc,rfl,Bh,XD⟩:=wY.cells
  have N:A.length=k*3:=by rw[K.len,lE];simp;omega
  generalize hy:comp (fC l) scope xs[k]=y at*
  have GY:(A++repl [T.i .i64 0,T.i .i64 0,T.nilsl] (xs.length-k)).length=xs.length*3:=by rw[List.length_append,B7,N];simp;omega
  have hsp:splice (A++repl [T.i .i64 0,T.i .i64 0,T.nilsl] (xs.length-k)) (k*3) [.i .i64 y.op,.i .i64 y.num,U]=(A++ [.i .i64 y.op,.i .i64 y.num,U])++repl [T.i .i64 0,T.i .i64 0,T.nilsl] (xs.length-(k+1)):=by
   rw[show xs.length-k=(xs.length-(k+1))+1 by omega,xF,B6 A [T.i .i64 0,T.i .i64 0,T.nilsl] _ [T.i .i64 y.op,T.i .i64 y.num,U] (k*3) N rfl]
  have ank:k*3+3≤xs.length*3:=yv
  simp only[qA,seval,bp,aH,dx,ot,h0,h1,I,AH,EF,GU,F,EG,X,Y,hw,aE,l7,mU,fL.kept1,Bh.froz1,hk,GY,hsp,ank]
  refine⟨_,rfl,_,_,A++ [.i .i64 y.op,.i .i64 y.num,U],Oq,rfl, ?_, ?_, ?_, ?_, ?_, ?_, ?_, ?_, ?_, ?_,Z,fun i hi=>by rw[Mu i hi,Ko i hi]⟩
  all_goals first|(simp only[qA,seval,h0,h1,I,AH,EF,J,F];done)|skip
  rw[List.take_succ_eq_append_getElem hk,lE,List.map_append,←lE,List.map_cons,hy]
  exact bf.append K (bf.one wY)
 ·rintro _ ⟨fr,H,A,Jq,rfl,h0,h1,I,AH,EF,GU,J,F,EG,K,MQ,Ko⟩
  rw[Nat.sub_self,show repl [T.i .i64 0,T.i .i64 0,T.nilsl] 0= []from rfl,List.append_nil]at EG
  rw[List.take_length]at K
  simp only[qA,seval,ot,EF,GU,Int.lt_irrefl]
  exact⟨_,_,sV,rfl,rfl,J,F,⟨A,EG,K⟩,Jq,rfl,MQ,Ko⟩
end
section
variable(l:Cs)(lT:T)(R:List ah)(cl:List T)(hl:IsSl lT l.length cl)(hcl:dn l cl)(hlen:l.length≤jY)
theorem FT(n:Nat)(Lc:n≤l.length)(hc: ∀j,j<n→ayz l lT R j)(scope:Int)(fq:scope=0∨scope=1∨scope=2∨scope=3)(x:Ex):ayy l lT R n scope x:=by
 induction x using Ex.ind with
 |h x ih=>
  intro k kn cs J hx hn zD W
  obtain⟨a,cc,rfl,ha,SK⟩:=hx.cells
  obtain⟨h1,h2,eZ,C0,sG,yA⟩:=vQ zD
  have hnd:=x.nodes_eq
  rw[au ajB (by simp[HH]),mK]
  by_cases e1:x.op=1
  ·rw[if_pos (.inl e1)]
   simp only[qA,seval,HH,e1]
   exact⟨_,kn,rfl,ja.of (x:= .mk 1 x.num []) (Or.inl ⟨rfl,rfl,rfl⟩) bf.nil,J,fun _ _=>rfl⟩
  by_cases e2:x.op=2
  ·rw[if_pos (.inr (.inl e2))]
   simp only[qA,seval,HH,e2]
   exact⟨_,kn,rfl,ja.of (x:= .mk 1 x.num []) (Or.inl ⟨rfl,rfl,rfl⟩) bf.nil,J,fun _ _=>rfl⟩
  by_cases e3:x.op=3
  ·rw[if_pos (.inr (.inr e3))]
   simp only[qA,seval,HH,e3]
   exact⟨_,kn,rfl,ja.of (x:= .mk 1 x.num []) (Or.inl ⟨rfl,rfl,rfl⟩) bf.nil,J,fun _ _=>rfl⟩
  rw[if_neg yv]
  by_cases e4:x.op=4
  ·rw[if_pos e4]
   simp only[qA,seval,HH,e4]
   exact⟨_,kn,rfl,ja.of (x:= .mk 1 1 []) (Or.inl ⟨rfl,rfl,rfl⟩) bf.nil,J,fun _ _=>rfl⟩
  rw[if_neg e4]
  by_cases e5:x.op=5
  ·rw[if_pos e5]
   simp only[qA,seval,HH,e5]
   exact⟨_,kn,rfl,ja.of (x:= .mk 1 0 []) (Or.inl ⟨rfl,rfl,rfl⟩) bf.nil,J,fun _ _=>rfl⟩
  rw[if_neg e5]
  by_cases h6:x.op=6
  ·rw[if_pos h6]
   rw[Ex.ty_eq,if_pos h6]at W
   have r:=lkS (dJ (SW scope) (SW scope).length) x.name
   change _=some (S4 (KJ scope x.name))at r
   by_cases Y:dB scope x.name=0
   ·rw[if_neg (by simp[Y])]at W
    have Z:=(lW scope x.name).2 Y
    rw[Z]at r ⊢
    obtain⟨i,lZ,iD,JW,_,_,anB,_⟩:=vR Lc W
    obtain⟨K,aE,jf,fI⟩:=hc i iD x.name k kn JW anB J
    simp only[S4]at r
    rcases fq with rfl|rfl|rfl|rfl
    ·change iu _ ((dJ [] 0).map _) ((dJ [] 0).map _) _ _ _=_ at r
     simp only[qA,seval,eO,dx,HH,h6,GS,aFe,bW,r,aE,M8]
     exact⟨_,K,rfl,ja.of (x:= .mk 1 (fC l x.name) []) (Or.inl ⟨rfl,rfl,rfl⟩) bf.nil,jf,fun i hi=>fI i yv⟩
    ·change iu _ ((dJ bw 11).map _) ((dJ bw 11).map _) _ _ _=_ at r
     simp only[qA,seval,eO,dx,HH,h6,GS,ayu,bW,r,aE,M8]
     exact⟨_,K,rfl,ja.of (x:= .mk 1 (fC l x.name) []) (Or.inl ⟨rfl,rfl,rfl⟩) bf.nil,jf,fun i hi=>fI i yv⟩
    ·change iu _ ((dJ dZ 25).map _) ((dJ dZ 25).map _) _ _ _=_ at r
     simp only[qA,seval,eO,dx,HH,h6,GS,ayv,bW,r,aE,M8]
     exact⟨_,K,rfl,ja.of (x:= .mk 1 (fC l x.name) []) (Or.inl ⟨rfl,rfl,rfl⟩) bf.nil,jf,fun i hi=>fI i yv⟩
    ·change iu _ ((dJ jX 7).map _) ((dJ jX 7).map _) _ _ _=_ at r
     simp only[qA,seval,eO,dx,HH,h6,GS,ayw,bW,r,aE,M8]
     exact⟨_,K,rfl,ja.of (x:= .mk 1 (fC l x.name) []) (Or.inl ⟨rfl,rfl,rfl⟩) bf.nil,jf,fun i hi=>fI i yv⟩
   ·cases Z:KJ scope x.name with
    |none=>exact absurd ((lW scope x.name).1 Z) Y
    |some i=>
     rw[Z]at r
     rw[show S4 (some i)= .tup [.i .i64 (i:Int),.b true]from rfl]at r
     have hf:ja (.mk 6 (i:Int) []) [.i .i64 6,.i .i64 (i:Int),.nilsl]:=ja.of (x:= .mk 6 (i:Int) []) (Or.inl ⟨rfl,rfl,rfl⟩) bf.nil
     rcases fq with rfl|rfl|rfl|rfl
     ·exact absurd (jL _) Y
     ·change iu _ ((dJ bw 11).map _) ((dJ bw 11).map _) _ _ _=_ at r
      simp only[qA,seval,eO,HH,h6,GS,ayu,bW,r]
      exact⟨_,kn,rfl,hf,J,fun _ _=>rfl⟩
     ·change iu _ ((dJ dZ 25).map _) ((dJ dZ 25).map _) _ _ _=_ at r
      simp only[qA,seval,eO,HH,h6,GS,ayv,bW,r]
      exact⟨_,kn,rfl,hf,J,fun _ _=>rfl⟩
     ·change iu _ ((dJ jX 7).map _) ((dJ jX 7).map _) _ _ _=_ at r
      simp only[qA,seval,eO,HH,h6,GS,ayw,bW,r]
      exact⟨_,kn,rfl,hf,J,fun _ _=>rfl⟩
  ·rw[if_neg h6]
   obtain⟨ts,hts,hr,hk⟩:=vS W h6
   have yV:=fX x.args
   have CZ:x.args.length≤jY:=gH yv
   have hmk:x.args.length*40≤roomy∧x.args.length≤roomy:=by unfold jY at CZ;unfold roomy;omega
   have Jv:=fun fr lh sh D h0 h1 F AH EF GU H I EG=>aFg l lT R n scope x.args (fun y hy=>ih y hy) a cc ha SK yv yA ts hts kn J (.i .i64 x.op) 1 1 ⟨1,.cells [.i .i64 0,.i .i64 0,.nilsl] 0 true⟩ fr lh sh D h0 h1 F AH EF GU H I EG
   have hL:=fun fr lh sh D h0 h1 F AH EF GU H I EG=>And.intro (Jv fr lh sh D h0 h1 F AH EF GU H I EG).1 (And.intro (Jv fr lh sh D h0 h1 F AH EF GU H I EG).2.1 (And.intro (Jv fr lh sh D h0 h1 F AH EF GU H I EG).2.2.1 (And.intro (Xz (Jv fr lh sh D h0 h1 F AH EF GU H I EG).2.2.2.1).1 (aiU (Jv fr lh sh D h0 h1 F AH EF GU H I EG).2.2.2.2).1)))
   have hF:=fun fr lh sh D h0 h1 F AH EF GU H I EG=>(Xz (Jv fr lh sh D h0 h1 F AH EF GU H I EG).2.2.2.1).2
   have hM:=fun fr lh sh D h0 h1 F AH EF GU H I EG=>(aiU (Jv fr lh sh D h0 h1 F AH EF GU H I EG).2.2.2.2).2
   have N:=fun fr lh sh D h0 h1 F AH EF GU H I EG=>(hF fr lh sh D h0 h1 F AH EF GU H I EG).len
   have hcl:(eQ (fC l) scope x.args).length=x.args.length:=by rw[lE];simp
   rw[hcl]at N
   simp only[qA,seval,bp,Bj,aH,fK,HH,Td,e1,e2,e3,e4,e5,h6,ha.lenI,hmk,hL,N]
   generalize hX:Xy _ _=X
   generalize hMX:kL _ _ _ _ _ _=K
   have O:bf (eQ (fC l) scope x.args) X:=by
    rw[←hX]
    refine hF _ _ _ rfl ?_ ?_ ?_ ?_ ?_ ?_ ?_ ?_ ?_ <;> simp only[qA,seval]
   have U:jg l K∧ ∀i,n≤i→aM K i=aM kn i:=by
    rw[←hMX]
    refine hM _ _ _ rfl ?_ ?_ ?_ ?_ ?_ ?_ ?_ ?_ ?_ <;> simp only[qA,seval]
   have V:=O.len
   rw[hcl]at V
   rw[←V,List.take_length]
   exact⟨_,K,rfl,ja.of (x:= .mk x.op 0 (eQ (fC l) scope x.args)) (Or.inr ⟨false,by show T.sl X x.args.length false= .sl X (eQ (fC l) scope x.args).length false;rw[hcl]⟩) O,U.1,U.2⟩
end
theorem iz{x:Ex}(r:bL x=0):x.nodes≤200∧x.depth≤16:=by
 unfold bL at r
 by_cases h:big x
 ·rw[if_pos h]at r;cases r
 ·unfold big at h;omega
theorem aax{lh:aD ah}{sh:List ah}{keep:Bool}{k g r:Nat}{cs:List T}{bx:Bool}(h:ab lh k=⟨g,.cells cs r bx⟩)(hc:cs.all froz1=true):fzV lh sh keep (.ptr .L k g 0)=some (.vp cs,[(.L,k,⟨g,.cells cs cs.length bx⟩)]):=by
 unfold fzV aJ
 have hk:(keep&&Sp.L==Sp.S)=false:=by cases keep <;> rfl
 show Q.run _ _ (if(keep&&Sp.L==Sp.S)=true then _ else _)=_
 rw[hk]
 simp only[Bool.false_eq_true,if_false,Q.run]
 have D:(St.mk .nil lh sh).get .L k=⟨g,.cells cs r bx⟩:=h
 rw[D]
 simp only[if_true,List.drop_zero]
 have:bh (fz false 7) cs= .ret (cs,[]):=by
  clear h D
  induction cs with
  |nil=>rfl
  |cons c cs ih=>
   rw[List.all_cons,Bool.and_eq_true]at hc
   simp only[bh,qu hc.1,ih hc.2,Q.bind,List.append_nil]
 rw[this]
 rfl
theorem const_comp{l:Cs}{s:List Nat}{t:Int}(h:FR l s=(t,0)): ∃i,∃hi:i<l.length,fj l s=some i∧bL l[i].2=0∧l[i].2.ty (CL l i) 0=(t,0)∧Hc [] (comp (fC l) 0 l[i].2)∧(comp (fC l) 0 l[i].2).val []=fC l s∧fC l s=(sF l l.length).getD i 0:=by
 obtain⟨i,hi,JW,F,I,r,SQ,J,_,K⟩:=Kw h
 have H:=ic F
 have N:=(l[i].2).nodes_eq
 have O:=iz F
 have h0:Mm (OI (FR l) 0) (pX (fC l) 0 []):=by rw[ayq,aiT];exact F6 l
 obtain⟨h1,h2,h3⟩:=OJ h0 rfl l[i].2 t H yv r
 rw[aiT]at h2 h3
 have U:=(Kv (F6 l) 0 (fun s=>jL s) l[i].2 t H r).1
 have D:aar l 0 l[i].2=r9 t (l[i].2.val0 (fC l)):=U
 rw[SQ]at D
 have e1:=(GP (scope:=0) J).2.2
 have e2:=(GP (scope:=0) h3).2.2
 rw[←D,e1]at e2
 exact⟨i,hi,JW,F,I,h1,by rw[h2,e2],K⟩
section
variable(l:Cs)(lT:T)(R:List ah)(cl:List T)(hl:IsSl lT l.length cl)(hcl:dn l cl)(hlen:l.length≤jY)
include hl hcl
theorem FU: ∀j,j<l.length→ayz l lT R j:=by
 intro j
 induction j using Nat.strongRecOn with
 |ind j ih=>
  intro Y s t kn JW O U
  obtain⟨j',hj',H,Z,ht,jb,I,p9⟩:=const_comp O
  rw[JW]at H
  cases H
  have D:=lkS (bH l l.length) s
  rw[rV l s l.length (Nat.le_refl _),List.take_length,JW]at D
  rw[show S4 (some j)= .tup [.i .i64 (j:Int),.b true]from rfl]at D
  have F:iu (.one .int) (kn.map fun p=>nK p.1) (kn.map fun p=>iV p.2) (.i .i64 (j:Int)) (.i .i64 0) true=_:=ali (kT:=nK) (vT:=iV) afl (fun _=>rfl) kn j (.i .i64 0)
  rw[au af8 (by simp[PJ])]
  cases N:aM kn j with
  |some v=>
   have e:=U j v N
   rw[N]at F
   simp only[show iV v= .i .i64 v from rfl]at F
   rw[p9,←e]
   simp only[qA,seval,PJ,GS,ays,ayt,bW,D,F]
   exact⟨kn,rfl,U,fun _ _=>rfl⟩
  |none=>
   rw[N]at F
   simp only at F
   obtain⟨b,cb,r,V,fL,rP,hb⟩:=fZ hl hcl j Y
   obtain⟨cf,J,aE,wY,jf,fI⟩:=FT l lT R j (Nat.le_of_lt Y) (fun i hi=>ih i hi yv) 0 (.inl rfl) l[j].2 t kn _ U hb (iz Z).1 (ic Z) ht
   obtain⟨W,fc,rfl,Bh,XD⟩:=wY.cells
   have K:=Mn [] .nilsl (Or.inl ⟨rfl,rfl,rfl⟩) (comp (fC l) 0 l[j].2) W fc [] Bh XD jb
   rw[I]at K
   have yB:aM J j=none:=by rw[fI j (Nat.le_refl _),N]
   have iQ:lF (.one .int) (.i .i64 (j:Int)) (.i .i64 (fC l s)) (J.map fun p=>nK p.1) (J.map fun p=>iV p.2)=_:=vd (kT:=nK) (vT:=iV) afl J j (fC l s) yB
   generalize comp (fC l) 0 l[j].2=y at*
   have zG:([T.i .i64 y.op,T.i .i64 y.num,W]:List T).all froz1=true:=by simp[Bh.froz1,uY]
   have X:=fun lh sh keep (h:ab lh 9=⟨1,.cells [.i .i64 y.op,.i .i64 y.num,W] 0 true⟩)=>aax (sh:=sh) (keep:=keep) h zG
   simp only[qA,seval,dx,PJ,GS,ays,ayt,bW,D,F,V,fL.kept1,aE,l7,X,aA3,K,aib,iQ,ayx]
   refine⟨_,rfl, ?_, ?_⟩
   ·intro i v hi
    rw[lC]at hi
    cases CG:aM J i with
    |some u=>rw[CG]at hi;cases hi;exact jf i _ CG
    |none=>
     rw[CG]at hi
     simp only at hi
     split at hi
     ·rename_i e;subst e;cases hi;exact p9
     ·cases hi
   ·intro i hi
    rw[lC,fI i yv]
    cases aM kn i with
    |some u=>rfl
    |none=>simp only;rw[if_neg yv]
end
theorem Zk(op num:Int)(h:op=1∨op=2∨op=3∨op=4∨op=5)(a:T):ae pE 107 [.i .i64 op,.i .i64 num,a] []=some (.i .i64 (if op=1∨op=2∨op=3 then num else if op=4 then 1 else 0),[]):=by
 rw[au UF (by simp[qf])]
 rcases h with rfl|rfl|rfl|rfl|rfl <;> simp only[qA,seval,qf,true_or,or_true,or_self]
theorem OV{cl:List Nat→Int×Int}{scope:Int}: ∀{xs:List Ex} {ts:List Int},kK cl scope xs= .ok ts→ ∀(k:Nat) (hk:k<xs.length),∃t,xs[k].ty cl scope=(t,0)
 | [],ts,h,k,hk=>by simp at hk
 |x::xs,ts,h,k,hk=>by
  obtain⟨t,us,rfl,e1,e2⟩:=oh h
  cases k with
  |zero=>grind
  |succ k=>simp_all[OV]
theorem JX{cl:List Nat→Int×Int}{D:List Nat→Int}(hc:Mm cl D){scope:Int}(F: ∀s,dB scope s=0): ∀{xs:List Ex} {ts:List Int},FF xs=true→kK cl scope xs= .ok ts→wg ts (fE D xs)
 | [],ts,_,h=>by rw[kK]at h;cases h;trivial
 |x::xs,ts,r,h=>by
  obtain⟨t,us,rfl,e1,e2⟩:=oh h
  rw[FF,Bool.and_eq_true]at r
  exact⟨(Kv hc scope F x t r.1 e1).2,JX hc F r.2 e2⟩
theorem EH(l:Cs)(k:Nat): ∀n,n≤k→n≤l.length→iX (l.take k) n=iX l n
 |0,_,_=>rfl
 |n+1,h,hl=>by
  rw[xE l yv,xE (l.take k) (by rw[List.length_take];omega),EH l k n yv yv,List.take_take,Nat.min_eq_left yv,List.getElem_take]
theorem L2(l:Cs){k:Nat}(hk:k≤l.length)(x:Ex):cP (l.take k) 0 x=FG (l.take k) (iX l k) x:=by
 grind [cP,FG,List.length_take,Nat.min_eq_left,EH]
section
variable(l:Cs)(lT:T)(cl:List T)(hl:IsSl lT l.length cl)(hcl:dn l cl)(hlen:l.length≤jY)(tJ:smC l)
theorem adX{k:Nat}(hk:k<l.length)(hl:IsSl lT l.length cl)(hcl:dn l cl): ∃ex,lT= .sl cl l.length ex∧IsSl (.sl (List.take (k*5) cl) k (ex&&decide (k=l.length))) k (cl.take (k*5))∧dn (l.take k) (cl.take (k*5))∧cl.length=l.length*5:=by
 rcases hl with⟨_,hz,_⟩|⟨ex,rfl⟩
 ·omega
 ·exact⟨ex,rfl,Or.inr ⟨_,rfl⟩,hcl.take k,hcl.len⟩
end
end Go.Proofs.YtnkgnjecmfkcfaaGreat
