/- The given contract's trees. The names in an expression: the program's list of them. The names in an expression: what the program collects. The names in an expression, each once and sorted: the program's answer. The names in an expression: the reference's list. The names in an expression: the reference adds a name. Conditions: the theorems' own. -/
import Derived.Test.YtfenhjpkomldcaaGreatM21
import Derived.KernelRfl
set_option maxRecDepth 100000
set_option linter.unusedSimpArgs false
set_option linter.unusedVariables false
set_option maxHeartbeats 16000000
namespace Go.Proofs.YtfenhjpkomldcaaGreat
open Go Go.Ev
def tyS:List TypeId:= [43,25,106,111,113,68,60,30,38,39,23,40,41,3,9]
theorem HW:tyS.all (P7 Tryz.prog tyS)=true:=by kernel_rfl
theorem adk:fW Tryz.prog 43=some [3,3,3,3,3,3,3,30,38,39,23,40,41,3]:=by kernel_rfl
theorem ZE:fW Tryz.prog 25=some [3,3,9,23]:=by kernel_rfl
theorem Vg:fW Tryz.prog 106=some [9,25]:=by kernel_rfl
theorem aa8:fW Tryz.prog 111=some [3,9,25]:=by kernel_rfl
theorem aa9:fW Tryz.prog 113=some [3,25]:=by kernel_rfl
theorem adl:fW Tryz.prog 68=some [9,9,3,3]:=by kernel_rfl
theorem adm:fW Tryz.prog 60=some [9,3,3]:=by kernel_rfl
theorem adn: [30,38,39,23,40,41].map (vw Tryz.prog)= [106,111,113,25,68,60].map some:=by kernel_rfl
theorem aba: [25,106,111,113,68,60].all (fun t=>decide (0<Tryz.prog.bytesOf t))=true:=by kernel_rfl
theorem ty3:Tryz.prog.underlying 3=some (.int .i64):=by kernel_rfl
theorem ty9:Tryz.prog.underlying 9=some .string:=by kernel_rfl
theorem uo:reachBytes≤iq:=by decide
theorem HX: ∀{n:Nat} {ts:List T},gW Tryz.prog n 3 ts→ ∃x,ts= [.i .i64 x]
 |0,_,h=>h.elim
 |n+1,ts,h=>by unfold gW at h;rw[ty3]at h;exact h
theorem HY: ∀{n:Nat} {ts:List T},gW Tryz.prog n 9 ts→ ∃s,ts= [.s s]∧s.length≤iq
 |0,_,h=>h.elim
 |n+1,ts,h=>by
  unfold gW at h;rw[ty9]at h
  obtain⟨s,h1,h2⟩:=h
  exact⟨s,h1,Nat.le_trans h2 uo⟩
theorem vR{α:Type}{R:α→List T→Prop}{Q:α→Prop}{K:List T→Prop}(hR: ∀p,K p→ ∃x,R x p∧Q x): ∀(len:Nat) (cc:List T),rX K len cc→ ∃xs:List α,xs.length=len∧lP R xs cc∧ ∀x∈xs,Q x
 |0,cc,h=>⟨[],rfl,h,by simp⟩
 |len+1,cc,h=>by
  obtain⟨p,r,rfl,h1,h2⟩:=h
  obtain⟨x,x1,x2⟩:=hR p h1
  obtain⟨xs,y1,y2,y3⟩:=vR hR len r h2
  refine⟨x::xs,by rw[List.length_cons,y1],⟨p,r,rfl,x1,y2⟩,fun z hz=> ?_⟩
  rcases List.mem_cons.1 hz with rfl|hz
  ·exact x2
  ·exact y3 z hz
theorem qh: ∀{xs:List Ex} {cc:List T},lP bj xs cc→aL xs cc
 | [],cc,h=>by rw[aL];exact h
 |x::xs,cc,h=>by
  obtain⟨c,r,rfl,h1,h2⟩:=h
  exact aL.cons h1 (qh h2)
theorem sx: ∀{xs:Cs} {cc:List T},lP (fun c cs=> ∃ex,cs=T.s c.1::ex∧bj c.2 ex) xs cc→df xs cc
 | [],cc,h=>by rw[df];exact h
 |x::xs,cc,h=>by
  obtain⟨c,r,rfl,⟨ex,rfl,h1⟩,h2⟩:=h
  rw[df];exact⟨ex,r,rfl,h1,sx h2⟩
theorem N2{t e:TypeId}(he:vw Tryz.prog t=some e)(hp:0<Tryz.prog.bytesOf e): ∀{n:Nat} {ts:List T},gW Tryz.prog n t ts→ ∃m v len cc,n=m+1∧ts= [v]∧aN v len cc∧len≤iq∧rX (gW Tryz.prog m e) len cc
 |0,_,h=>h.elim
 |n+1,ts,h=>by
  obtain⟨v,len,cc,h1,h2,h3,h4⟩:=h.row he
  exact⟨n,v,len,cc,rfl,h1,h2,Nat.le_trans (Nat.le_mul_of_pos_right len hp) (Nat.le_trans h3 uo),h4⟩
theorem N3: ∀(k n:Nat) (ts:List T),n≤k→gW Tryz.prog n 25 ts→ ∃x:Ex,bj x ts∧x.al∧x.sm
 |0,0,_,_,h=>h.elim
 |_+1,0,_,_,h=>h.elim
 |k+1,n+1,ts,hk,h=>by
  obtain⟨p1,r1,rfl,h1,p2,r2,rfl,h2,p3,r3,rfl,h3,p4,r4,rfl,h4,rfl⟩:=h.st ZE
  obtain⟨op,rfl⟩:=HX h1
  obtain⟨num,rfl⟩:=HX h2
  obtain⟨s,rfl,hs⟩:=HY h3
  obtain⟨m,v,len,cc,rfl,rfl,h5,h6,h7⟩:=N2 (e:=25) (by kernel_rfl) (of_decide_eq_true (by kernel_rfl)) h4
  obtain⟨xs,y1,y2,y3⟩:=vR (Q:=fun x:Ex=>x.al∧x.sm) (fun p hp=>N3 k m p (by omega) hp) len cc h7
  subst y1
  exact⟨.mk op num s xs,by rw[bj];exact⟨v,cc,rfl,h5,qh y2⟩,by rw[Ex.al];exact⟨h6,oD.2 fun x hx=>(y3 x hx).1⟩,by rw[Ex.sm];exact⟨hs,mg.2 fun x hx=>(y3 x hx).2⟩⟩
theorem N4{n:Nat}{ts:List T}(h:gW Tryz.prog n 25 ts): ∃x:Ex,bj x ts∧x.al∧N0 x:=by
 obtain⟨x,h1,h2,h3⟩:=N3 n n ts (Nat.le_refl _) h
 exact⟨x,h1,h2,Nat.zero_le _,h3⟩
theorem Vh: ∀{n:Nat} {p:List T},gW Tryz.prog n 106 p→ ∃c:List Nat×Ex,(∃ex,p=T.s c.1::ex∧bj c.2 ex)∧c.2.al∧N0 c.2
 |0,_,h=>h.elim
 |n+1,p,h=>by
  obtain⟨p1,r1,rfl,h1,p2,r2,rfl,h2,rfl⟩:=h.st Vg
  obtain⟨s,rfl,_⟩:=HY h1
  obtain⟨x,x1,x2⟩:=N4 h2
  exact⟨(s,x),⟨p2,by simp,x1⟩,x2⟩
end Go.Proofs.YtfenhjpkomldcaaGreat
namespace Go.Proofs.YtfenhjpkomldcaaGreat
open Go Go.Ev
def yx:T→Bool
 | .sl [_] 1 _=>true
 |_=>false
def uq:T→Bool
 | .nilsl=>true
 | .isl .S _ _ 0 _ 1=>true
 |_=>false
def B1(sh:List aA)(k bytes g len:Nat)(c:T)(e:aA):Option (T×List aA):=match e.ob with
 | .cells cs wm false=>if e.g=g∧len=cs.length∧(len+1)*bytes≤roomy then some (.isl .S k (g+1) 0 (len+1) 1,fO sh k ⟨g+1,.cells (cs++ [c]) wm false⟩)else none
 |_=>none
def HZ(sh:List aA)(bytes:Nat):T→T→Option (T×List aA)
 | .nilsl,.sl [c] 1 _=>if bytes≤roomy then some (.isl .S sh.length 1 0 1 1,fO sh sh.length ⟨1,.cells [c] 0 false⟩)else none
 | .isl .S k g 0 len 1,.sl [c] 1 _=>B1 sh k bytes g len c (ch sh k)
 |_,_=>none
theorem ur{k g off len sz:Nat}:kept (.isl .S k g off len sz)=true:=nr rfl
theorem vS{lh:aQ aA}{sh:List aA}{e:Bool}:zQ lh sh e []=some (.tup [],sh):=nr (by cases e <;> rfl)
theorem yy{c:T}{ex:Bool}:yx (.sl [c] 1 ex)=true:=nr rfl
theorem DY:uq .nilsl=true:=nr rfl
theorem DZ{k g len:Nat}:uq (.isl .S k g 0 len 1)=true:=nr rfl
theorem uu{sh:List aA}{bytes:Nat}{c:T}{ex:Bool}:HZ sh bytes .nilsl (.sl [c] 1 ex)=if bytes≤roomy then some (.isl .S sh.length 1 0 1 1,fO sh sh.length ⟨1,.cells [c] 0 false⟩)else none:=nr rfl
theorem uv{sh:List aA}{k g len bytes:Nat}{c:T}{ex:Bool}:HZ sh bytes (.isl .S k g 0 len 1) (.sl [c] 1 ex)=B1 sh k bytes g len c (ch sh k):=nr rfl
theorem yz{sh:List aA}{k g g' len bytes wm:Nat}{c:T}{cs:List T}:B1 sh k bytes g len c ⟨g',.cells cs wm false⟩=if g'=g∧len=cs.length∧(len+1)*bytes≤roomy then some (.isl .S k (g+1) 0 (len+1) 1,fO sh k ⟨g+1,.cells (cs++ [c]) wm false⟩)else none:=nr rfl
theorem yA{t:T}(h:yx t=true): ∃c ex,t= .sl [c] 1 ex:=by
 unfold yx at h
 split at h
 ·exact⟨_,_,rfl⟩
 ·cases h
theorem yB{t:T}(h:uq t=true):t= .nilsl∨ ∃k g len,t= .isl .S k g 0 len 1:=by
 unfold uq at h
 split at h
 ·exact .inl rfl
 ·exact .inr ⟨_,_,_,rfl⟩
 ·cases h
section
variable{E:Env}{call:jk}{n:Nat}{fr:Fr}{lh:aQ aA}{sh:List aA}{ds:List (List Nat×aJ)}{bo:List FP}{d:Option Nat}{os:List aJ}
theorem H0{bytes:Nat}{s x:aZ}(hx:yx (rd fr x)=true)(hs:uq (rd fr s)=true)(hu:EV ds=true):aH E call n (([],⟨d,.app 1 bytes s x true false,none⟩)::ds) bo ⟨fr,lh,sh⟩=
  ke E call n ds (bo++ [cG]) (aq E call n [⟨d,.app 1 bytes s x true false,none⟩] ⟨fr,lh,sh⟩):=by
 rw[lG (fp:=(bD E call ⟨d,.app 1 bytes s x true false,none⟩ ⟨fr,lh,sh⟩).getD cG)]
 ·show ke _ _ _ _ _ _=_
  unfold ke
  cases aq E call n [⟨d,.app 1 bytes s x true false,none⟩] ⟨fr,lh,sh⟩with
  |none=>rfl
  |some s=>exact nX ds _ _ s hu
 ·intro dr
  obtain⟨v,ups,hr,eb⟩:=pc (q:=iv (d.getD 0) 1 bytes (rd fr s) (rd fr x) true false) (by rfl) (by rw[dA];rfl) dr
  have:=eb (by
   obtain⟨c,ex,hx⟩:=yA hx
   have hs:=yB hs
   rw[hx]at hr ⊢
   rcases hs with hs|⟨k,g,len,hs⟩
   ·rw[hs]at hr ⊢
    simp only[iv,bL,List.length_cons,List.length_nil,Nat.mul_one,Nat.zero_add,if_true,Q.bind]at hr ⊢
    simp only[Nat.succ_ne_zero,if_false]at hr ⊢
    split at hr
    ·rename_i hb
     have yZ:bytes≤roomy:=by simpa using hb
     simp only[Nat.one_mul,if_pos yZ,gP,if_true,Q.asks,Bool.true_or]
    ·simp[Q.run]at hr
   ·rw[hs]at hr ⊢
    simp only[iv,bL,List.length_cons,List.length_nil,Nat.mul_one,Nat.zero_add,if_true,Q.bind]at hr ⊢
    simp only[Nat.succ_ne_zero,if_false]at hr ⊢
    split at hr
    ·simp only[Q.run]at hr
     split at hr
     ·rename_i hg
      split at hr
      ·rename_i cs wm qq
       split at hr
       ·simp only[Q.run,Option.some.injEq,sL.val.injEq]at hr
        obtain⟨_,rfl⟩:=hr
        simp[lV,q8,qq]
       ·simp[Q.run]at hr
      ·simp[Q.run]at hr
     ·simp[Q.run]at hr
    ·simp[Q.run]at hr)
  rw[this];rfl
theorem H2{dd bytes:Nat}{s x:aZ}(hd:dd<n)(hx:yx (rd fr x)=true)(hs:uq (rd fr s)=true):aq E call n (⟨some dd,.app 1 bytes s x true false,none⟩::os) ⟨fr,lh,sh⟩=
  (HZ sh bytes (rd fr s) (rd fr x)).bind fun q=>aq E call n os ⟨cS fr dd q.1,lh,q.2⟩:=by
 obtain⟨c,ex,hx⟩:=yA hx
 rw[k5 (by rfl) (show xA n (some dd)from hd)]
 unfold Ev.one
 rcases yB hs with hs|⟨k,g,len,hs⟩
 ·simp only[bC,iv,bI,hs,hx,bL,List.length_cons,List.length_nil,Nat.mul_one,Nat.zero_add,if_true,Q.run,Option.bind_some,uu]
  simp only[Nat.succ_ne_zero,if_false,Nat.one_mul]
  by_cases hb:bytes≤roomy
  ·simp only[if_pos hb,gP,Q.run,if_true];rfl
  ·simp only[if_neg hb,Q.run];rfl
 ·have G8:(St.mk fr lh sh).get .S k=ch sh k:=rfl
  rw[hs,hx,uv]
  generalize hE:ch sh k=e at*
  obtain⟨g',ob⟩:=e
  unfold B1
  simp only[bC,iv,bI,hs,hx,bL,List.length_cons,List.length_nil,Nat.mul_one,Nat.zero_add,if_true,Q.run,Option.bind_some]
  simp only[Nat.succ_ne_zero,if_false,decide_true,Bool.true_and,decide_eq_true_eq]
  by_cases hb:(len+1)*bytes≤roomy
  ·simp only[Q.run,G8,if_true,hb,and_true]
   by_cases hg:g'=g
   ·subst hg
    simp only[if_true,true_and]
    cases ob with
    |none=>simp only[Q.run];rfl
    |map _ _ _=>simp only[Q.run];rfl
    |cells cs wm bx=>
     cases bx with
     |true=>simp only[Q.run];rfl
     |false=>
      simp only[]
      by_cases hl:len=cs.length
      ·simp only[if_pos hl,Q.run];rfl
      ·simp only[if_neg hl,Q.run];rfl
   ·simp only[Q.run,hg,false_and,if_false]
    cases ob with
    |none=>rfl
    |map _ _ _=>rfl
    |cells cs wm bx=>cases bx <;> rfl
  ·simp only[hb,if_false,Q.run,and_false]
   cases ob with
   |none=>rfl
   |map _ _ _=>rfl
   |cells cs wm bx=>cases bx <;> rfl
def D0(e:aA):Bool:=match e.ob with
 | .cells _ _ true=>true
 |_=>false
def vU(sh:List aA):T→Bool
 | .ptr .S k _ _=>D0 (ch sh k)
 |_=>false
theorem m7{sh:List aA}{k g off:Nat}:vU sh (.ptr .S k g off)=D0 (ch sh k):=nr rfl
theorem sy{g wm:Nat}{cs:List T}:D0 ⟨g,.cells cs wm true⟩=true:=nr rfl
def QD(lh:aQ aA)(sh:List aA)(k g off:Nat)(v:T)(m:Nat)(e:aA):Option (aQ aA×List aA):=match e.ob with
 | .cells cs wm true=>if e.g=g∧(cellsOf v).length=m∧noTup v=true∧wm≤off∧off+m≤cs.length then some (lh,fO sh k ⟨e.g,.cells (splice cs off (cellsOf v)) wm true⟩)else none
 |_=>tK lh sh (.ptr .S k g off) v m
theorem sA{k g g' off m wm:Nat}{cs:List T}{v:T}:QD lh sh k g off v m ⟨g',.cells cs wm true⟩=if g'=g∧(cellsOf v).length=m∧noTup v=true∧wm≤off∧off+m≤cs.length then some (lh,fO sh k ⟨g',.cells (splice cs off (cellsOf v)) wm true⟩)else none:=nr rfl
theorem vo{k g off m:Nat}{v:T}(hz:kept v=true):tK lh sh (.ptr .S k g off) v m=QD lh sh k g off v m (ch sh k):=by
 have G8:(St.mk .nil lh sh).get .S k=ch sh k:=rfl
 generalize hE:ch sh k=e
 obtain⟨g',ob⟩:=e
 unfold QD
 cases ob with
 |none=>rfl
 |map _ _ _=>rfl
 |cells cs wm bx=>
  cases bx with
  |false=>rfl
  |true=>
   by_cases h1:(cellsOf v).length=m
   ·cases h2:noTup v with
    |false=>
     unfold tK jm
     have:(decide ((cellsOf v).length≠m)|| !noTup v)=true:=by simp[h2]
     simp only[this,if_true,Q.run]
     simp
    |true=>
     unfold tK jm
     have:(decide ((cellsOf v).length≠m)|| !noTup v)=false:=by simp[h1,h2]
     simp only[this,Bool.false_eq_true,if_false]
     simp only[Q.run,G8,hE]
     by_cases hg:g'=g
     ·subst hg
      by_cases hw:wm≤off∧off+m≤cs.length
      ·have FQ:(decide (wm≤off)&&decide (off+m≤cs.length))=true:=by simp[hw.1,hw.2]
       unfold aM
       simp only[if_true,Bool.true_and,show(Sp.S==Sp.L)=false from rfl,Bool.and_false,Bool.false_eq_true,if_false,show(Sp.S==Sp.S)=true from rfl,l9 hz,Q.bind,fP,List.any_nil,h1,h2,Bool.not_true,Bool.or_false,ne_eq,not_true_eq_false,decide_false,hw.1,hw.2,and_self,List.nil_append]
       rfl
      ·have FQ:(decide (wm≤off)&&decide (off+m≤cs.length))=false:=by simpa using hw
       simp only[if_true,FQ,Bool.false_eq_true,if_false,Q.run,h1,true_and]
       rw[if_neg hw]
     ·simp only[hg,if_false,Q.run,false_and]
   ·unfold tK jm
    have:(decide ((cellsOf v).length≠m)|| !noTup v)=true:=by simp[h1]
    simp only[this,if_true,Q.run,h1,false_and,and_false,if_false]
theorem N5{x v:aZ}{m:Nat}(hz:kept (rd fr v)=true)(hb:vU sh (rd fr x)=true)(hu:EV ds=true):aH E call n (([],⟨none,.st x v m,none⟩)::ds) bo ⟨fr,lh,sh⟩=
  ke E call n ds (bo++ [cG]) (aq E call n [⟨none,.st x v m,none⟩] ⟨fr,lh,sh⟩):=by
 rw[lG (fp:=(bD E call ⟨none,.st x v m,none⟩ ⟨fr,lh,sh⟩).getD cG)]
 ·show ke _ _ _ _ _ _=_
  unfold ke
  cases aq E call n [⟨none,.st x v m,none⟩] ⟨fr,lh,sh⟩with
  |none=>rfl
  |some s=>exact nX ds _ _ s hu
 ·intro dr
  obtain⟨w,ups,hr,eb⟩:=pc (q:=jm (rd fr x) (rd fr v) m) (by rfl) (by rw[dA];rfl) dr
  have:=eb (by
   cases hx:rd fr x with
   |ptr sp k g off=>
    cases sp with
    |L=>rw[hx]at hb;simp[vU]at hb
    |S=>
     rw[hx]at hb hr
     rw[m7]at hb
     have G8:(St.mk fr lh sh).get .S k=ch sh k:=rfl
     generalize hE:ch sh k=e at*
     obtain⟨g',ob⟩:=e
     cases ob with
     |none=>simp[D0]at hb
     |map _ _ _=>simp[D0]at hb
     |cells cs wm bx=>
      cases bx with
      |false=>simp[D0]at hb
      |true=>
       unfold jm at hr
       split at hr
       ·simp[Q.run]at hr
       ·simp only[Q.run,G8]at hr
        split at hr
        ·split at hr
         ·unfold aM at hr
          simp only[Bool.true_and,show(Sp.S==Sp.L)=false from rfl,Bool.false_eq_true,if_false,show(Sp.S==Sp.S)=true from rfl,l9 hz,Q.bind,fP,List.any_nil,Bool.false_or]at hr
          split at hr
          ·simp[Q.run]at hr
          ·simp only[Q.run,Option.some.injEq,sL.val.injEq]at hr
           obtain⟨_,rfl⟩:=hr
           simp[lV,q8,G8]
         ·simp[Q.run]at hr
        ·simp[Q.run]at hr
   |_=>rw[hx]at hb;simp[vU]at hb)
  rw[this];rfl
end
end Go.Proofs.YtfenhjpkomldcaaGreat
namespace Go.Proofs.YtfenhjpkomldcaaGreat
open Go Go.Ev
mutual
def Ex.uses:Ex→List (List Nat)
 | .mk op _ s xs=>(if op=6 then [s]else [])++dw xs
def dw:List Ex→List (List Nat)
 | []=> []
 |x::xs=>x.uses++dw xs
end
theorem Ex.uses_eq(x:Ex):x.uses=(if x.op=6 then [x.name]else [])++dw x.args:=by obtain⟨_,_,_,_⟩:=x;rw[Ex.uses];rfl
theorem py: ∀(xs ys:List Ex),dw (xs++ys)=dw xs++dw ys
 | [],ys=>by simp[dw]
 |x::xs,ys=>by simp only[List.cons_append,dw,py xs ys,List.append_assoc]
theorem sC{xs:List Ex}{k:Nat}(hk:k<xs.length):dw (xs.take (k+1))=dw (xs.take k)++xs[k].uses:=by
 rw[List.take_succ_eq_append_getElem hk,py]
 simp[dw]
theorem yC{xs:List Ex}{k:Nat}:(dw (xs.take k)).length≤(dw xs).length:=by
 have:=py (xs.take k) (xs.drop k)
 rw[List.take_append_drop]at this
 rw[this,List.length_append];omega
def LJ:List (List Nat)→List aA
 | []=> [⟨1,.cells [.nilsl] 0 true⟩]
 |L=> [⟨1,.cells [.isl .S 1 L.length 0 L.length 1] 0 true⟩,⟨L.length,.cells (L.map T.s) 0 false⟩]
theorem vV:LJ []= [⟨1,.cells [.nilsl] 0 true⟩]:=nr rfl
theorem AE{L:List (List Nat)}(h:L≠ []):LJ L= [⟨1,.cells [.isl .S 1 L.length 0 L.length 1] 0 true⟩,⟨L.length,.cells (L.map T.s) 0 false⟩]:=by
 cases L with
 |nil=>exact absurd rfl h
 |cons x xs=>rfl
def Vi(y:Ex):Prop:= ∀cs L,bj y cs→y.al→L.length+y.uses.length≤4294967296→aa pE 80 [.agg cs,.ptr .S 0 1 0] (LJ L)=some (.tup [],LJ (L++y.uses))
theorem Vj(xs:List Ex)(ih: ∀y∈xs,Vi y)(a:T)(cc:List T)(ha:aN a xs.length cc)(hx:aL xs cc)(hlen:xs.length≤iq)(gH:LI xs)(L:List (List Nat))(hL:L.length+(dw xs).length≤4294967296)(fr:Fr)(lh:aQ aA)(sh:List aA)(iy:sh=LJ L)
  (h1:an fr 1= .ptr .S 0 1 0) (m4:an fr 19=a) (Ei:an fr 20= .i .i64 (xs.length:Int)) (H3:an fr 21= .i .i64 0):
  DC pE 29 (.loop lv) ⟨fr,lh,sh⟩=some (.ext 0,⟨ev pE 29 lv fr lh sh,eP pE 29 lv fr lh sh,eJ pE 29 lv fr lh sh⟩)∧(eJ pE 29 lv fr lh sh=LJ (L++dw xs)):=by
 refine a6 (P:=fun g7 dj cq=>cq=LJ (L++dw xs))
  (bt (fun k st=> ∃(fr:Fr) (dS:aQ aA),st=⟨fr,dS,LJ (L++dw (xs.take k))⟩∧an fr 1= .ptr .S 0 1 0∧an fr 19=a∧an fr 20= .i .i64 (xs.length:Int)∧an fr 21= .i .i64 (k:Int)) _ xs.length ?_ ?_ 0 _ (Nat.zero_le _) ⟨fr,lh,by rw[iy];simp[dw],h1,m4,Ei,H3⟩)
 ·rintro k _ hk ⟨fr,dS,rfl,h1,m4,Ei,H3⟩
  left
  have dN:(k:Int)<xs.length:=by omega
  have hw:=jh (k:=k) (by omega)
  obtain⟨b,cb,rr,cQ,fu,oq,hb⟩:=dV ha hx k hk
  have IY:=sC hk
  have hle:=yC (xs:=xs) (k:=k+1)
  have aB:=ih xs[k] (List.getElem_mem hk) _ (L++dw (xs.take k)) hb (oD.1 gH _ (List.getElem_mem hk)) (by rw[IY]at hle;simp only[List.length_append]at hle ⊢; omega)
  rw[List.append_assoc,←IY]at aB
  simp(maxDischargeDepth:=6) only[qF,ah,ai,ab,aj,ae,ak,splice,Nat.reduceAdd,Nat.reduceLT,Nat.reduceLeDiff,Nat.reduceEqDiff,im,lv,h1,m4,Ei,H3,dN,cQ,hw,fu.kept1,aB,OK]
  refine⟨_,rfl,_,_,rfl, ?_, ?_, ?_, ?_⟩
  all_goals (simp(maxDischargeDepth:=6) only[ab,ae,Nat.reduceEqDiff,h1,m4,Ei])
 ·rintro _ ⟨fr,dS,rfl,h1,m4,Ei,H3⟩
  simp(maxDischargeDepth:=6) only[ah,ai,ab,ae,ak,Nat.reduceLT,lv,Ei,H3,Int.lt_irrefl]
  exact⟨_,_,(by simp:Out.ext 0≠ .nrm),rfl,rfl,by rw[List.take_length]⟩
theorem QE(x:Ex):Vi x:=by
 induction x using Ex.ind with
 |h x ih=>
 intro cs L hx gH hL
 obtain⟨a,cc,rfl,ha,g5⟩:=hx.cells
 rw[Ex.al_eq]at gH
 rw[aD RZ (by simp[Oo])]
 rw[Ex.uses_eq]at hL ⊢
 by_cases h6:x.op=6
 ·rw[if_pos h6]at hL ⊢
  simp only[List.length_append,List.length_cons,List.length_nil]at hL
  have uw:=Vj x.args ih a cc ha g5 gH.1 gH.2 (L++ [x.name]) (by rw[List.length_append];simp;omega)
  rw[List.append_assoc]at uw
  have h2:([x.name]++dw x.args)=x.name::dw x.args:=rfl
  rw[h2]at uw ⊢
  cases L with
  |nil=>
   rw[vV]
   have hr:(16:Nat)≤roomy:=by decide
   have hL:=fun fr lh h1 m4 Ei H3=>uw fr lh [⟨1,.cells [.isl .S 1 1 0 1 1] 0 true⟩,⟨1,.cells [.s x.name] 0 false⟩] rfl h1 m4 Ei H3
   simp(maxDischargeDepth:=6) only[qF,ah,ai,ab,aj,ae,ak,dH,dQ,splice,aF,repl,reduceCtorEq,Nat.reduceLT,Nat.reduceEqDiff,bV,aV,pf,Oo,h6,ha.lenI,H0,H2,yy,DY,uu,hr,N5,ur,m7,sy,vo,sA,hL,vS]
  |cons s L'=>
   rw[AE (by simp)]
   have hr:(L'.length+1+1)*16≤roomy:=by unfold roomy;simp only[List.length_cons]at hL;omega
   have hL:=fun fr lh h1 m4 Ei H3=>uw fr lh [⟨1,.cells [.isl .S 1 (L'.length+1+1) 0 (L'.length+1+1) 1] 0 true⟩,⟨L'.length+1+1,.cells (.s s::(L'.map T.s++ [.s x.name])) 0 false⟩] (by rw[AE (by simp)];simp) h1 m4 Ei H3
   simp(maxDischargeDepth:=6) only[qF,ah,ai,ab,aj,ae,ak,dH,dQ,splice,aF,repl,reduceCtorEq,Nat.reduceLT,Nat.reduceEqDiff,bV,aV,pf,Oo,h6,ha.lenI,H0,H2,yy,DZ,uv,yz,hr,List.length_map,N5,ur,m7,sy,vo,sA,hL,vS]
 ·rw[if_neg h6]at hL ⊢
  have uw:=Vj x.args ih a cc ha g5 gH.1 gH.2 L (by simpa using hL)
  have hL:=fun fr lh h1 m4 Ei H3=>uw fr lh (LJ L) rfl h1 m4 Ei H3
  simp(maxDischargeDepth:=6) only[qF,ah,ai,ab,aj,ae,ak,reduceCtorEq,Nat.reduceLT,Nat.reduceEqDiff,bV,Oo,h6,ha.lenI,hL,vS]
end Go.Proofs.YtfenhjpkomldcaaGreat
namespace Go.Proofs.YtfenhjpkomldcaaGreat
open Go Go.Ev
theorem Vk{z:Nat}{fr:Fr}{lh:aQ aA}{sh:List aA}{args:List T}:ar pE (aa pE) z ⟨fr,lh,sh⟩ 81 args=kS mC ⟨fr,lh,sh⟩ args:=xB rfl rfl rfl
theorem Vl{z:Nat}{fr:Fr}{lh:aQ aA}{sh:List aA}{args:List T}:ar pE (aa pE) z ⟨fr,lh,sh⟩ 82 args=kS mD ⟨fr,lh,sh⟩ args:=xB rfl rfl rfl
theorem pz: ∀l:List (List Nat),j3 (l.map T.s)=some l
 | []=>rfl
 |x::l=>by rw[List.map_cons,j3,pz l];rfl
theorem mj(l:List (List Nat)):(gk l).length=l.length:=by unfold gk;exact List.length_mergeSort _
theorem H4(l:List (List Nat)):(l.map T.s).all single=true:=by rw[List.all_map,List.all_eq_true];intro x _;rfl
theorem LK{l:List (List Nat)}(h:l.length≤4294967296):mC (l.map T.s)=some ((gk l).map T.s,none):=by
 unfold mC;rw[pz];simp only[];rw[if_pos (by omega)]
def yD(l:List (List Nat)):List (List Nat):=cL l++List.replicate (l.length-(cL l).length) []
theorem yE: ∀(p:List Nat) (l:List (List Nat)),(fk p l).length≤l.length
 |_,[]=>Nat.le_refl _
 |p,y::r=>by
  simp only[fk]
  have:=yE y r
  split <;> simp <;> omega
theorem sD: ∀(l:List (List Nat)),(cL l).length≤l.length
 | []=>Nat.le_refl _
 |x::r=>by simp only[cL,List.length_cons];have:=yE x r;omega
theorem ux(l:List (List Nat)):(yD l).length=l.length:=by unfold yD;have:=sD l;simp;omega
theorem LL{l:List (List Nat)}(h:l.length≤4294967296):mD (l.map T.s)=some ((yD l).map T.s,some (cL l).length):=by
 unfold mD;rw[pz];simp only[];rw[if_pos (by omega)];rfl
theorem H5{h:List T→Option (List T×Option Nat)}{fr:Fr}{lh:aQ aA}{b:aA}{l ys:List (List Nat)}{g n:Nat}{r:Option Nat}(hn:n=l.length)(hh:h (l.map T.s)=some (ys.map T.s,r))(hl:ys.length=l.length)(hr:r.getD 0≤l.length):
  kS h ⟨fr,lh,[b,⟨g,.cells (l.map T.s) 0 false⟩]⟩ [.isl .S 1 g 0 n 1]=some (Fl .S 1 g 0 r,⟨fr,lh,[b,⟨g,.cells (ys.map T.s) 0 false⟩]⟩):=by
 subst hn
 have e1:(St.mk fr lh [b,⟨g,.cells (l.map T.s) 0 false⟩]).get .S 1=⟨g,.cells (l.map T.s) 0 false⟩:=rfl
 unfold kS
 simp only[e1]
 have e2:((l.map T.s).drop 0).take l.length=l.map T.s:=by rw[List.drop_zero,List.take_of_length_le (by simp)]
 rw[if_pos ⟨trivial,Nat.le_refl _,by simp⟩,e2,hh]
 simp only[]
 rw[if_pos ⟨by simp[hl],H4 ys,hr⟩]
 have e3: ∀(a b:List T),b.length=a.length→splice a 0 b=b:=by
  intro a
  induction a with
  |nil=>intro b hb;cases b with|nil=>rfl|cons _ _=>simp at hb
  |cons x a ih=>
   intro b hb
   cases b with
   |nil=>simp at hb
   |cons y b=>simp only[splice];rw[ih b (by simpa using hb)]
 rw[e3 _ _ (by simp[hl])]
 rfl
theorem QF{h:List T→Option (List T×Option Nat)}{st:St}(hh:h []=some ([],none)):kS h st [.nilsl]=some (.tup [],st):=by
 unfold kS;simp only[hh]
theorem LM{h:List T→Option (List T×Option Nat)}{st:St}(hh:h []=some ([],some 0)):kS h st [.nilsl]=some (.nilsl,st):=by
 unfold kS;simp only[hh]
def Ex.usesN(x:Ex):List (List Nat):=cL (gk x.uses)
theorem QG{lh:aQ aA}{b:aA}{g m:Nat}{ys:List (List Nat)}(hm:m≤ys.length):fzV lh [b,⟨g,.cells (ys.map T.s) 0 false⟩] false (.isl .S 1 g 0 m 1)=some (.sl ((ys.take m).map T.s) m false,[(.S,1,⟨g,.cells (ys.map T.s) (ys.map T.s).length false⟩)]):=by
 have e1:(St.mk .nil lh [b,⟨g,.cells (ys.map T.s) 0 false⟩]).get .S 1=⟨g,.cells (ys.map T.s) 0 false⟩:=rfl
 unfold fzV aM
 have e2:((ys.map T.s).drop 0).take (m*1)=(ys.take m).map T.s:=by rw[List.drop_zero,Nat.mul_one,List.map_take]
 have e3:0+m*1≤(ys.map T.s).length:=by simp;omega
 simp only[fz,Q.run,e1,if_true,if_pos e3,e2,Bool.false_and,Bool.false_eq_true,if_false,beq_self_eq_true]
theorem H6(x:Ex)(cs:List T)(hx:bj x cs)(gH:x.al)(hu:x.uses.length≤4294967296): ∃t s,aa pE 47 [.agg cs] []=some (t,s)∧aN t x.usesN.length (x.usesN.map T.s):=by
 obtain⟨a,cc,rfl,ha,g5⟩:=hx.cells
 have D1:=QE x _ [] hx gH (by simpa using hu)
 rw[vV,List.nil_append]at D1
 rw[aD OA (by simp[Q2])]
 unfold Ex.usesN
 generalize hL:x.uses=L at*
 by_cases h0:L= []
 ·subst h0
  rw[vV]at D1
  have rj:=fun st=>QF (h:=mC) (st:=st) (by simp[mC,j3,gk])
  have sW:=fun st=>LM (h:=mD) (st:=st) (by simp[mD,j3,cL])
  simp(maxDischargeDepth:=6) only[qF,ah,ai,ab,aj,ae,ak,Nat.reduceAdd,Nat.reduceLT,Nat.reduceEqDiff,pf,im,Q2,ha.kept1,D1,OK,Vk,Vl,rj,sW]
  refine⟨_,_,rfl,.inl ⟨rfl, ?_, ?_⟩⟩ <;> simp[gk,cL]
 ·rw[AE h0]at D1
  obtain⟨n,hn⟩: ∃n,n=L.length:=⟨_,rfl⟩
  rw[←hn]at D1
  have rj:=fun fr lh=>H5 (h:=mC) (fr:=fr) (lh:=lh) (b:=⟨1,.cells [.isl .S 1 n 0 n 1] 0 true⟩) (g:=n) hn (LK hu) (mj L) (Nat.zero_le _)
  obtain⟨m,hm⟩: ∃m,m=(cL (gk L)).length:=⟨_,rfl⟩
  have dq:=sD (gk L)
  have sW:=fun fr lh=>H5 (h:=mD) (fr:=fr) (lh:=lh) (b:=⟨1,.cells [.isl .S 1 n 0 n 1] 0 true⟩) (g:=n) (hn.trans (mj L).symm) (LL (l:=gk L) (by rw[mj];exact hu)) (ux _) (by simpa using dq)
  rw[←hm]at sW ⊢
  simp only[Fl]at rj sW
  obtain⟨ys,kZ⟩: ∃ys,ys=yD (gk L):=⟨_,rfl⟩
  rw[←kZ]at sW
  simp(maxDischargeDepth:=6) only[qF,ah,ai,ab,aj,ae,ak,Nat.reduceAdd,Nat.reduceLT,Nat.reduceEqDiff,pf,im,Q2,ha.kept1,D1,OK,Vk,Vl,rj,sW]
  have Vm:ys.take m=cL (gk L):=by rw[kZ,hm];unfold yD;exact List.take_left
  have Bo:m≤ys.length:=by rw[kZ,ux,hm];exact dq
  rw[QG Bo,Vm]
  refine⟨_,_,rfl,.inr ⟨false,rfl⟩⟩
end Go.Proofs.YtfenhjpkomldcaaGreat
namespace Go.Proofs.YtfenhjpkomldcaaGreat
open Go Go.Ev
section
variable{E:Env}{call:jk}{n:Nat}{fr:Fr}{lh:aQ aA}{sh:List aA}{u:List Nat}{ds:List (List Nat×aJ)}{bo:List FP}{d:Option Nat}{os:List aJ}
def Ro:T→Bool
 | .nilsl=>true
 | .sl [] 0 _=>true
 |_=>false
theorem LN:Ro .nilsl=true:=nr rfl
theorem AF{ex:Bool}:Ro (.sl [] 0 ex)=true:=nr rfl
theorem vW{sz bytes:Nat}{s x:aZ}(hx:Ro (rd fr x)=true):aH E call n ((u,⟨d,.app sz bytes s x false false,none⟩)::ds) bo ⟨fr,lh,sh⟩=
  if meets u bo cG=true then ke E call n ds (bo++ [cG]) (aq E call n [⟨d,.app sz bytes s x false false,none⟩] ⟨fr,lh,sh⟩)else none:=by
 refine lG fun dr=> ?_
 have pR:bL sz (rd fr x)= .ret (0,[]):=by
  cases qE:rd fr x with
  |nilsl=>rfl
  |sl cs m ex=>
   rw[qE]at hx
   cases cs with
   |nil=>cases m with
    |zero=>simp[bL]
    |succ m=>simp[Ro]at hx
   |cons _ _=>simp[Ro]at hx
  |_=>rw[qE]at hx;simp[Ro]at hx
 obtain⟨v,ups,hr,eb⟩:=pc (q:=iv (d.getD 0) sz bytes (rd fr s) (rd fr x) false false) (by rfl) (by rw[dA];rfl) dr
 unfold iv at hr eb
 rw[pR]at hr eb
 simp only[Q.bind,if_true]at hr eb
 cases Bz:rd fr s <;> rw[Bz]at hr eb <;> simp only[Q.run,Option.some.injEq,sL.val.injEq]at hr eb <;> first
  |(obtain⟨rfl,rfl⟩:=hr;exact eb (by simp[lV]))
  |cases hr
end
def dB(s:List Nat):List (List Nat)→Nat
 | []=>0
 |y::r=>if cg y s=true then dB s r+1 else 0
theorem oE(s:List Nat): ∀L,dB s L≤L.length
 | []=>Nat.le_refl _
 |y::r=>by
  unfold dB
  have:=oE s r
  split <;> simp <;> omega
theorem vX(s:List Nat): ∀(L:List (List Nat)) (k:Nat) (h:k<dB s L),cg (L[k]'(Nat.lt_of_lt_of_le h (oE s L))) s=true
 | [],k,h=>by simp[dB]at h
 |y::r,k,h=>by
  unfold dB at h
  split at h
  ·rename_i hy
   cases k with
   |zero=>simpa using hy
   |succ k=>simpa using vX s r k (by omega)
  ·omega
theorem vY(s:List Nat): ∀(L:List (List Nat)) (h:dB s L<L.length),cg (L[dB s L]) s=false
 | [],h=>by simp at h
 |y::r,h=>by
  by_cases hy:cg y s=true
  ·have e:dB s (y::r)=dB s r+1:=by rw[dB,if_pos hy]
   have h':dB s r<r.length:=by rw[e]at h;simpa using h
   have:=vY s r h'
   simp only[e,List.getElem_cons_succ];exact this
  ·have e:dB s (y::r)=0:=by rw[dB,if_neg hy]
   simp only[e,List.getElem_cons_zero];simpa using hy
def pA(s:List Nat)(L:List (List Nat)):List (List Nat):=if(L.drop (dB s L)).head?=some s then L else L.take (dB s L)++s::L.drop (dB s L)
def yF(lh:aQ aA)(v:T)(L:List (List Nat)):Prop:=aN v L.length (L.map T.s)∨ ∃k,k≠3∧bG lh v k 1 L.length (L.map T.s)
end Go.Proofs.YtfenhjpkomldcaaGreat
namespace Go.Proofs.YtfenhjpkomldcaaGreat
open Go Go.Ev
theorem uy{L:List (List Nat)}{v:T}(h:aN v L.length (L.map T.s))(k:Nat)(hk:k<L.length):tJ v (.i .i64 (k:Int)) 1=some (.vp (((L.map T.s).drop k)))∧((L.map T.s).drop k)= .s L[k]::(L.map T.s).drop (k+1):=by
 refine⟨by rw[h.ia (sz:=1) (by simp) hk,Nat.mul_one], ?_⟩
 rw[List.drop_eq_getElem_cons (by simpa using hk),List.getElem_map]
theorem uz{k:Nat}(h:k≤4294967296):wr .i64 ((k:Int)+1)=((k+1:Nat):Int):=by rw[lg (by omega)];omega
theorem ZF(L:List (List Nat))(v:T)(hv:aN v L.length (L.map T.s))(hlen:L.length≤4294967296)(s:List Nat)(c0 c1 a:T)(fr:Fr)(lh:aQ aA)(sh:List aA)
  (h0:an fr 0=v) (h3:an fr 3= .ptr .L 3 1 0) (h5:an fr 5= .i .i64 0) (o3:aE lh 3=⟨1,.cells [c0,c1,.s s,a] 0 true⟩):
  DC pE 65 (.loop hJ) ⟨fr,lh,sh⟩=some (.ext 0,⟨ev pE 65 hJ fr lh sh,eP pE 65 hJ fr lh sh,eJ pE 65 hJ fr lh sh⟩)∧
  (an (ev pE 65 hJ fr lh sh) 5= .i .i64 (dB s L:Int)∧eP pE 65 hJ fr lh sh=lh∧eJ pE 65 hJ fr lh sh=sh):=by
 have dq:=oE s L
 refine a6 (P:=fun g7 dj cq=>an g7 5= .i .i64 (dB s L:Int)∧dj=lh∧cq=sh)
  (bt (fun k st=> ∃(fr:Fr),st=⟨fr,lh,sh⟩∧an fr 0=v∧an fr 3= .ptr .L 3 1 0∧an fr 5= .i .i64 (k:Int)) _ (dB s L) ?_ ?_ 0 _ (Nat.zero_le _) ⟨fr,rfl,h0,h3,h5⟩)
 ·rintro k _ hk ⟨fr,rfl,h0,h3,h5⟩
  left
  have dN:(k:Int)<L.length:=by omega
  have hw:=uz (k:=k) (by omega)
  have dG:=vX s L k hk
  obtain⟨cQ,hd⟩:=uy hv k (by omega)
  rw[hd]at cQ
  simp(maxDischargeDepth:=6) only[ah,ai,ab,aj,ae,aY,aK,Nat.reduceAdd,reduceCtorEq,Nat.reduceLT,Nat.reduceEqDiff,hJ,h0,h3,h5,o3,hv.lenI,dN,cQ,dG,hw]
  refine⟨_,rfl,_,rfl, ?_, ?_, ?_⟩
  all_goals (simp(maxDischargeDepth:=6) only[ab,ae,reduceCtorEq,Nat.reduceEqDiff,h0,h3])
 ·rintro _ ⟨fr,rfl,h0,h3,h5⟩
  by_cases hk:dB s L<L.length
  ·have dN:(dB s L:Int)<L.length:=by omega
   obtain⟨cQ,hd⟩:=uy hv _ hk
   rw[hd]at cQ
   have dG:=vY s L hk
   simp(maxDischargeDepth:=6) only[ah,ai,ab,aj,ae,aY,aK,Nat.reduceAdd,reduceCtorEq,Nat.reduceLT,Nat.reduceEqDiff,hJ,h0,h3,h5,o3,hv.lenI,dN,cQ,dG]
   refine⟨_,_,(by simp:Out.ext 0≠ .nrm),rfl,rfl, ?_,rfl,rfl⟩
   simp(maxDischargeDepth:=6) only[ab,ae,Nat.reduceEqDiff,h5]
  ·have dN: ¬(dB s L:Int)<L.length:=by omega
   simp(maxDischargeDepth:=6) only[ah,ai,ab,aj,ae,ak,aY,aK,Nat.reduceAdd,reduceCtorEq,Nat.reduceLT,Nat.reduceEqDiff,hJ,h0,h5,hv.lenI,dN]
   refine⟨_,_,(by simp:Out.ext 0≠ .nrm),rfl,rfl, ?_,rfl,rfl⟩
   simp(maxDischargeDepth:=6) only[ab,ae,Nat.reduceEqDiff,h5]
end Go.Proofs.YtfenhjpkomldcaaGreat
