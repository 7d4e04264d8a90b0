/- Walks of functions of the program and of the reference, and their plain laws, part 10. Conditions: the theorems' own. -/
import Derived.Test.YtjniffjppoklpaaGreatM9
import Derived.KernelRfl
set_option maxRecDepth 100000
set_option linter.unusedSimpArgs false
set_option linter.unusedVariables false
set_option maxHeartbeats 16000000
namespace Go.Proofs.YtjniffjppoklpaaGreat
open Go Go.Ev
def ae2:T→Bool
 | .ptr .S .. =>true
 |_=>false
theorem qK{k g off:Nat}:ae2 (.ptr .S k g off)=true:=nr rfl
def T1:T→FP
 | .ptr .S k _ _=>⟨false,[(.S,k)],[(.S,k)]⟩
 |_=>oe
section
variable{E:Env}{call:qT}{n:Nat}{fr:Fr}{lh:iL iy}{sh:List iy}{ds:List (List Nat×iz)}{jR:List FP}{u:List Nat}
theorem CU{x v:iS}{m:Nat}(F:ae2 (rd fr x)=true)(N:froz (rd fr v)=true):jc E call n ((u,⟨none,.st x v m,none⟩)::ds) jR ⟨fr,lh,sh⟩=
  if meets u jR (T1 (rd fr x))=true then ke E call n ds (jR++ [T1 (rd fr x)]) (iB E call n [⟨none,.st x v m,none⟩] ⟨fr,lh,sh⟩)else none:=by
 refine vn fun J=> ?_
 cases Mk:rd fr x with
 |ptr sp k g off=>
  cases sp with
  |L=>rw[Mk]at F;simp[ae2]at F
  |S=>
   by_cases K:(decide ((cellsOf (rd fr v)).length≠m)|| !noTup (rd fr v))=true
   ·obtain⟨w,I,r,D⟩:=yQ (q:= .fail) (by rfl) (by rw[lU];simp only[jK,uR,Mk];rw[if_pos K]) J
    simp[Q.run]at r
   ·obtain⟨w,I,r,D⟩:=yQ (q:= .rd .S k (TM k g off m (rd fr v))) (by rfl) (by rw[lU];simp only[jK,uR,Mk];rw[if_neg K];rfl) J
    simp only[Q.run,Q.log,Q.asks]at r D
    generalize O:(St.mk fr lh sh).get .S k=e at r D
    obtain⟨U,ob⟩:=e
    unfold TM at r D
    by_cases H:U=g
    ·cases ob with
     |none=>simp[H,Q.run]at r
     |map ks X z=>simp[H,Q.run]at r
     |cells cs wm bx=>
      simp only[H,if_true]at r D
      split at r
      ·rename_i V
       rw[if_pos V]at D
       have hs:(bx&&(Sp.S==Sp.L))=false:=by cases bx <;> rfl
       rw[hs]at r D
       simp only[Bool.false_eq_true,if_false]at r D
       unfold iT at r D
       rw[qt N]at r D
       simp only[Q.bind]at r D
       split at r
       ·simp[Q.run]at r
       ·rename_i W
        rw[if_neg W]at D
        simp[Q.run]at r
        obtain⟨rfl,rfl⟩:=r
        rw[D (by simp[nl,EH,O])]
        rfl
      ·simp[Q.run]at r
    ·simp only[H,if_false,Q.run]at r
     cases r
 |_=>rw[Mk]at F;simp[ae2]at F
theorem wQ{k g off:Nat}:T1 (.ptr .S k g off)=⟨false,[(.S,k)],[(.S,k)]⟩:=nr rfl
end
theorem nwd(c:Ct)(F r:T)(c7 tE:List T)(i7:iJ F c.cs.length c7)(j7:lB c.cs c7)(i10:iJ r c.cr.length tE)(yx:kz c.cr tE)(hlen:c.cr.length≤40)(sE: ∀u∈c.cr,Mx c.cs 1 u)(zT aT fT a8 a9 iH iG nb H I J K N O:T)(k2 k3 wy:iy)(FJ:List (Nat×Int))(B0:pJ c.cs FJ)(R0:List iy)(l1 l2 l3 q1 q2 q3:RL)(Ku:mr R0 80 (oP H I J K N O .nilsl l1 l2 l3 q1 q2 q3 []))(fr:Fr)(lh:iL iy)(sh:List iy)(mJ:sh=mw F (jP c.cs c.cs.length) FJ R0)
  (W:an fr 8= .ptr .L 37 1 0) (X:an fr 14= .ptr .S 2 1 0) (Jm:an fr 156=r) (GV:an fr 157= .i .i64 (c.cr.length:Int)) (My:an fr 158= .i .i64 0) (Z:a6 lh 2=k2) (o3:a6 lh 3=k3) (nG:a6 lh 35=wy) (U:a6 lh 37=⟨1,.cells (nC zT aT fT c F a8 a9 r iH iG (nP H I J K N O .nilsl nb)) 0 true⟩):
  qG 232 pT fr lh sh (.ext 8)∧
  (a6 (nh pE 232 pT fr lh sh) 2=k2∧a6 (nh pE 232 pT fr lh sh) 3=k3∧a6 (nh pE 232 pT fr lh sh) 35=wy∧ ∃(R:List iy) (kn:List (Nat×Int)) (D:T),nB pE 232 pT fr lh sh=mw F (jP c.cs c.cs.length) kn R∧pJ c.cs kn∧mr R 120 (oP H I J K N O D l1 l2 l3 q1 q2 q3 (T2 c c.cr.length))∧a6 (nh pE 232 pT fr lh sh) 37=⟨1,.cells (nC zT aT fT c F a8 a9 r iH iG (nP H I J K N O D nb)) 0 true⟩):=by
 refine jh (P:=fun jB je jk=>a6 je 2=k2∧a6 je 3=k3∧a6 je 35=wy∧ ∃(R:List iy) (kn:List (Nat×Int)) (D:T),jk=mw F (jP c.cs c.cs.length) kn R∧pJ c.cs kn∧mr R 120 (oP H I J K N O D l1 l2 l3 q1 q2 q3 (T2 c c.cr.length))∧a6 je 37=⟨1,.cells (nC zT aT fT c F a8 a9 r iH iG (nP H I J K N O D nb)) 0 true⟩)
  (jx (fun k st=> ∃(fr:Fr) (Y:iL iy) (R:List iy) (kn:List (Nat×Int)) (D:T),st=⟨fr,Y,mw F (jP c.cs c.cs.length) kn R⟩∧pJ c.cs kn∧mr R (80+k) (oP H I J K N O D l1 l2 l3 q1 q2 q3 (T2 c k))∧an fr 8= .ptr .L 37 1 0∧an fr 14= .ptr .S 2 1 0∧an fr 156=r∧an fr 157= .i .i64 (c.cr.length:Int)∧an fr 158= .i .i64 (k:Int)∧a6 Y 2=k2∧a6 Y 3=k3∧a6 Y 35=wy∧a6 Y 37=⟨1,.cells (nC zT aT fT c F a8 a9 r iH iG (nP H I J K N O D nb)) 0 true⟩) _ c.cr.length ?_ ?_ 0 _ (Nat.zero_le _) ⟨fr,lh,R0,FJ,.nilsl,by rw[mJ],B0,Ku,W,X,Jm,GV,My,Z,o3,nG,U⟩)
 ·rintro k _ hk ⟨fr,Y,R,kn,D,rfl,pK,rA,W,X,Jm,GV,My,Z,o3,nG,U⟩
  left
  have iU:(k:Int)<c.cr.length:=by omega
  have hw:=iX (k:=k) (by omega)
  obtain⟨b,cb,rr,iW,lE,uE,hb⟩:=nY i10 yx k hk
  obtain⟨oi,V,t,oh⟩:=sE c.cr[k] (List.getElem_mem hk)
  have FL:=(oX V).1
  obtain⟨cf,ky,iI,BN,pL,_⟩:=Jn c.cs F R c.cs.length (Nat.le_refl _) (Jo c.cs F R c7 i7 j7) 1 (.inr oi) c.cr[k] t kn _ pK hb FL (nZ V) (by rw[B1];exact oh)
  have qn:=Dy (nH c.cs) 1 c.cr[k]
  have s1:=ZC c hk
  generalize c.cr[k]=u at*
  generalize comp (nH c.cs) 1 u=y at*
  obtain⟨fa,fc,rfl,Ay,Zm⟩:=BN.cells
  have AH:A7 3 [([],y)] [.i .i64 y.op,.i .i64 y.num,fa]:=by
   have:=(A7.nil 3).app3 ([],y) _ BN (by show y.sz≤1000;omega)
   simpa using this
  have Dz:=Jp
  unfold nC jb nP at U ⊢
  simp only[List.cons_append,List.nil_append]at U ⊢
  rcases rA.1 (3,D,T2 c k) (by simp[oP])with⟨nw,Cz⟩|⟨i,g,n,cs,hv,hE,hi,hn,hB,hfz⟩
  ·simp only at nw Cz
   subst nw
   rw[Cz,List.nil_append]at s1
   have yc:=(rA.mono (Nat.le_succ (80+k))).new (by omega) 6 (by simp[oP]) (sz:=3) rfl [.i .i64 y.op,.i .i64 y.num,fa] rfl _ AH
   simp only[qA,seval,repl,jw,oW,iN,pd,jA,kP,pT,W,X,Jm,GV,My,U,iU,iW,hw,iI,sD,tp,lE.kept1,Ay.froz1,lC,mZ,ju,lI,mF,HU,uc,HV,Dz,ko,kD,vB,Nat.lt_succ_self,CU,qK,wQ]
   refine⟨_,rfl,_,_,iR R R.length ⟨1,.cells [.i .i64 y.op,.i .i64 y.num,fa] 0 false⟩,ky,.isl .S (R.length+7) 1 0 1 3,rfl,pL,(by rw[s1];exact yc), ?_, ?_, ?_, ?_, ?_, ?_, ?_, ?_, ?_⟩
   all_goals (simp only[qA,seval,W,X,Jm,GV,Z,o3,nG])
  ·simp only at hv
   subst hv
   have qX:=rA.app 6 (by simp[oP]) (sz:=3) rfl rfl hE hi hn hB [.i .i64 y.op,.i .i64 y.num,fa] rfl _ (hfz.app3 ([],y) _ BN (by show y.sz≤1000;omega)) (g+1)
   have yf:(n+1)*40≤roomy:=DA (by omega)
   simp only[qA,seval,repl,jw,oW,iN,pd,jA,kP,pT,W,X,Jm,GV,My,U,iU,iW,hw,iI,sD,tp,lE.kept1,Ay.froz1,lC,mZ,ju,k8,mG,kE,HU,uc,HV,ko,kD,n4,vC,Nat.lt_succ_self,CU,qK,wQ,hE,hn,yf]
   refine⟨_,rfl,_,_,iR R i ⟨g+1,.cells (cs++ [.i .i64 y.op,.i .i64 y.num,fa]) 0 false⟩,ky,.isl .S (i+7) (g+1) 0 (n+1) 3,rfl,pL,(by rw[s1];exact qX), ?_, ?_, ?_, ?_, ?_, ?_, ?_, ?_, ?_⟩
   all_goals (simp only[qA,seval,W,X,Jm,GV,Z,o3,nG])
 ·rintro _ ⟨fr,Y,R,kn,D,rfl,pK,rA,W,X,Jm,GV,My,Z,o3,nG,U⟩
  simp only[qA,seval,pT,GV,My,Int.lt_irrefl]
  exact⟨_,_,oH,rfl,rfl,Z,o3,nG,R,kn,D,rfl,pK,rA.mono (by omega),U⟩
theorem Mz{lh:iL iy}{sh:List iy}{k g off wm:Nat}{cs:List T}(D:iM sh k=⟨g,.cells cs wm false⟩)(r:cs.all froz1=true):fzV lh sh false (.ptr .S k g off)=some (.vp (cs.drop off),[(.S,k,⟨g,.cells cs cs.length false⟩)]):=by
 have F:(cs.drop off).all froz1=true:=by
  rw[List.all_eq_true]at r ⊢
  exact fun x H=>r x (List.mem_of_mem_drop H)
 have I:(St.mk .nil lh sh).get .S k=iM sh k:=rfl
 unfold fzV iT
 rw[fz]
 simp only[Bool.false_and,Bool.false_eq_true,if_false,Q.run,I,D,if_true]
 rw[qb _ F]
 rfl
theorem avp{f:Fm}{c:List T}(h:pA f c):c.all froz1=true:=by
 obtain⟨a,D,rfl,r,F⟩:=h.cells
 simp[r.froz1,As]
theorem aiH: ∀{l:List Fm} {cs:List T},jl l cs→cs.all froz1=true
 | [],cs,h=>by rw[jl]at h;rw[h];rfl
 |f::l,cs,h=>by
  rw[jl]at h
  obtain⟨c,r,D,F,H⟩:=h
  rw[D,List.all_append,avp F,aiH H];rfl
theorem avq: ∀{l:List (List Nat×Fm)} {cs:List T},iK RlR l cs→cs.all froz1=true
 | [],cs,h=>by rw[iK]at h;rw[h];rfl
 |u::l,cs,h=>by
  obtain⟨c,r,rfl,⟨H,rfl,D⟩,F⟩:=h
  rw[List.all_append,avq F,List.all_cons,avp D];rfl
theorem A7.froz{sz:Nat}{l:RL}{cs:List T}(h:A7 sz l cs):cs.all froz1=true:=by
 have r:=h.1
 split at r
 ·exact avq r
 ·exact aiH r
theorem A7.at4{l:RL}{cs:List T}(h:A7 4 l cs){n k:Nat}(U:n*4=cs.length)(V:k<n): ∃(f:Fm) (b:T) (D r:List T),cs.drop (k*4+1)= .i .i64 f.op:: .i .i64 f.num::b::r∧iJ b f.args.length D∧jl f.args D∧f.sz≤1000:=by
 have I:=h.2
 have F:=h.1
 rw[if_pos rfl]at F
 have W:=iK.len RlR.len F
 have H:k<l.length:=by omega
 obtain⟨c,r,J,X,rfl,K⟩:=iK.drop RlR.len k H F
 obtain⟨b,D,rfl,N,O⟩:=K.cells
 refine⟨l[k].2,b,D,r, ?_,N,O,I _ (List.getElem_mem H)⟩
 rw[←List.drop_drop,J]
 rfl
theorem A7.at3{l:RL}{cs:List T}(h:A7 3 l cs){n k:Nat}(V:n*3=cs.length)(W:k<n): ∃(f:Fm) (b:T) (D r:List T),cs.drop (k*3)= .i .i64 f.op:: .i .i64 f.num::b::r∧iJ b f.args.length D∧jl f.args D∧f.sz≤1000:=by
 have J:=h.2
 have F:=h.1
 rw[if_neg (by decide)]at F
 have K:=jl.len F
 rw[List.length_map]at K
 have H:k<l.length:=by omega
 have N3:k<(l.map Prod.snd).length:=by simpa using H
 obtain⟨c,r,N,I,_⟩:=jl.drop k N3 F
 rw[List.getElem_map]at I
 obtain⟨b,D,rfl,O,U⟩:=I.cells
 exact⟨l[k].2,b,D,r,N,O,U,J _ (List.getElem_mem H)⟩
def RwW(R:List iy)(p:Nat×T×RL):Prop:=(p.2.1= .nilsl∧p.2.2= [])∨ ∃i g n cs wm,p.2.1= .isl .S (i+7) g 0 n p.1∧iM R i=⟨g,.cells cs wm false⟩∧i<R.length∧n*p.1=cs.length∧n≤1000∧A7 p.1 p.2.2 cs
def yW(R:List iy)(r:List (Nat×T×RL)):Prop:= ∀p∈r,RwW R p
theorem mr.toW{R:List iy}{B:Nat}{r:List (Nat×T×RL)}(h:mr R B r)(N:B≤1000):yW R r:=fun p D=>by
 rcases h.1 p D with h|⟨i,g,n,cs,F,H,I,J,O,K⟩
 ·exact .inl h
 ·exact .inr ⟨i,g,n,cs,0,F,H,I,J,by omega,K⟩
theorem aBV(c:Ct)(F a8 a9 H iH iG zT aT fT J D K N O U V:T)(m:List (List Nat×Nat))(kn:List (Nat×Int))(ZD:Bool)(R0:List iy)(l1 l2 l3 e1 e2 e3 er:RL)(Ku:yW R0 (oP J D K N O U V l1 l2 l3 e1 e2 e3 er))(W:Nat)(hn2:(D= .nilsl∧W=0)∨ ∃i g,D= .isl .S (i+7) g 0 W 4)(hn1:W≤1000)(k2 k3 wy:iy)(fr:Fr)(lh:iL iy)(sh:List iy)(mJ:sh=mw F m kn R0)
  (Z:an fr 8= .ptr .L 37 1 0) (X:an fr 181= .i .i64 (W:Int)) (hi:an fr 182= .i .i64 0) (o2:a6 lh 2=k2) (o3:a6 lh 3=k3) (nG:a6 lh 35=wy) (Y:a6 lh 37=⟨1,.cells (nC zT aT fT c F a8 a9 H iH iG (nP J D K N O U V (.b ZD))) 0 true⟩):
  qG 232 pR fr lh sh (.ext 10)∧
  (a6 (nh pE 232 pR fr lh sh) 2=k2∧a6 (nh pE 232 pR fr lh sh) 3=k3∧a6 (nh pE 232 pR fr lh sh) 35=wy∧ ∃(R:List iy) (I:Bool),nB pE 232 pR fr lh sh=mw F m kn R∧yW R (oP J D K N O U V l1 l2 l3 e1 e2 e3 er)∧a6 (nh pE 232 pR fr lh sh) 37=⟨1,.cells (nC zT aT fT c F a8 a9 H iH iG (nP J D K N O U V (.b I))) 0 true⟩):=by
 refine jh (P:=fun jB je jk=>a6 je 2=k2∧a6 je 3=k3∧a6 je 35=wy∧ ∃(R:List iy) (I:Bool),jk=mw F m kn R∧yW R (oP J D K N O U V l1 l2 l3 e1 e2 e3 er)∧a6 je 37=⟨1,.cells (nC zT aT fT c F a8 a9 H iH iG (nP J D K N O U V (.b I))) 0 true⟩)
  (jx (fun k st=> ∃(fr:Fr) (kf:iL iy) (R:List iy) (I:Bool),st=⟨fr,kf,mw F m kn R⟩∧yW R (oP J D K N O U V l1 l2 l3 e1 e2 e3 er)∧an fr 8= .ptr .L 37 1 0∧an fr 181= .i .i64 (W:Int)∧an fr 182= .i .i64 (k:Int)∧a6 kf 2=k2∧a6 kf 3=k3∧a6 kf 35=wy∧a6 kf 37=⟨1,.cells (nC zT aT fT c F a8 a9 H iH iG (nP J D K N O U V (.b I))) 0 true⟩) _ W ?_ ?_ 0 _ (Nat.zero_le _) ⟨fr,lh,R0,ZD,by rw[mJ],Ku,Z,X,hi,o2,o3,nG,Y⟩)
 ·rintro k _ hk ⟨fr,kf,R,I,rfl,rA,Z,X,hi,o2,o3,nG,Y⟩
  left
  have iU:(k:Int)<W:=by omega
  have hw:=iX (k:=k) (by omega)
  have GW: ∃i g,D= .isl .S (i+7) g 0 W 4:=by
   rcases hn2 with⟨_,h⟩|h
   ·omega
   ·exact h
  obtain⟨i0,g0,GW⟩:=GW
  rcases rA (4,D,l2) (by simp[oP])with⟨nw,_⟩|⟨i,g,n,cs,wm,hv,hE,rW,hn,hB,hfz⟩
  ·simp only[GW]at nw;cases nw
  simp only[GW]at hv
  injection hv with _ q1 q2 _ q3 _
  have q1:i0=i:=by omega
  subst q1 q2 q3
  obtain⟨f,b,cb,r,hdr,hb,hfs,aBW⟩:=hfz.at4 hn hk
  have hus:=aiI (p:=1) f b cb r hb hfs (by omega)
  have hcz:=hfz.froz
  have hz: ∀lh,fzV lh (mw F m kn R) false (.ptr .S (i0+7) g0 (k*4+1))=some (.vp (.i .i64 f.op:: .i .i64 f.num::b::r),[(.S,i0+7,⟨g0,.cells cs cs.length false⟩)]):=fun lh=>by
   rw[Mz (by rw[HU];exact hE) hcz,hdr]
  have hzL: ∀lh,Dn lh (mw F m kn R) false [.ptr .S (i0+7) g0 (k*4+1),.i .i64 1]=some ([.vp (.i .i64 f.op:: .i .i64 f.num::b::r),.i .i64 1],[(.S,i0+7,⟨g0,.cells cs cs.length false⟩)]):=fun lh=>by
   rw[rX,rX,Ds,hz lh,tS (by rfl)];rfl
  have oi: ∀x,scalar (.b x)=true:=fun _=>rfl
  unfold nC jb nP at Y ⊢
  simp only[List.cons_append,List.nil_append,GW]at Y ⊢
  cases I with
  |true=>
   simp only[qA,seval,pR,Z,X,hi,Y,iU,hw]
   refine⟨_,rfl,_,_,R,true,rfl,(by rw[←GW];exact rA), ?_, ?_, ?_, ?_, ?_, ?_, ?_⟩
   all_goals (simp only[qA,seval,Z,X,o2,o3,nG])
  |false=>
   simp only[qA,seval,lZ,pR,Z,X,hi,Y,iU,hw,hzL,hus,oi,arj,hk]
   refine⟨_,rfl,_,_,R,f.us 1,rfl,(by rw[←GW];exact rA), ?_, ?_, ?_, ?_, ?_, ?_, ?_⟩
   all_goals (simp only[qA,seval,Z,X,o2,o3,nG])
 ·rintro _ ⟨fr,kf,R,I,rfl,rA,Z,X,hi,o2,o3,nG,Y⟩
  simp only[qA,seval,pR,X,hi,Int.lt_irrefl]
  exact⟨_,_,oH,rfl,rfl,o2,o3,nG,R,I,rfl,rA,Y⟩
theorem aBZ(c:Ct)(F a8 a9 H iH iG zT aT fT J K N O D U V:T)(m:List (List Nat×Nat))(kn:List (Nat×Int))(ZD:Bool)(R0:List iy)(l1 l2 l3 e1 e2 e3 er:RL)(Ku:yW R0 (oP J K N O D U V l1 l2 l3 e1 e2 e3 er))(W:Nat)(hn2:(D= .nilsl∧W=0)∨ ∃i g,D= .isl .S (i+7) g 0 W 3)(hn1:W≤1000)(k2 k3 wy:iy)(fr:Fr)(lh:iL iy)(sh:List iy)(mJ:sh=mw F m kn R0)
  (Z:an fr 8= .ptr .L 37 1 0) (X:an fr 209= .i .i64 (W:Int)) (hi:an fr 210= .i .i64 0) (o2:a6 lh 2=k2) (o3:a6 lh 3=k3) (nG:a6 lh 35=wy) (Y:a6 lh 37=⟨1,.cells (nC zT aT fT c F a8 a9 H iH iG (nP J K N O D U V (.b ZD))) 0 true⟩):
  qG 232 pQ fr lh sh (.ext 12)∧
  (a6 (nh pE 232 pQ fr lh sh) 2=k2∧a6 (nh pE 232 pQ fr lh sh) 3=k3∧a6 (nh pE 232 pQ fr lh sh) 35=wy∧ ∃(R:List iy) (I:Bool),nB pE 232 pQ fr lh sh=mw F m kn R∧yW R (oP J K N O D U V l1 l2 l3 e1 e2 e3 er)∧a6 (nh pE 232 pQ fr lh sh) 37=⟨1,.cells (nC zT aT fT c F a8 a9 H iH iG (nP J K N O D U V (.b I))) 0 true⟩):=by
 refine jh (P:=fun jB je jk=>a6 je 2=k2∧a6 je 3=k3∧a6 je 35=wy∧ ∃(R:List iy) (I:Bool),jk=mw F m kn R∧yW R (oP J K N O D U V l1 l2 l3 e1 e2 e3 er)∧a6 je 37=⟨1,.cells (nC zT aT fT c F a8 a9 H iH iG (nP J K N O D U V (.b I))) 0 true⟩)
  (jx (fun k st=> ∃(fr:Fr) (kf:iL iy) (R:List iy) (I:Bool),st=⟨fr,kf,mw F m kn R⟩∧yW R (oP J K N O D U V l1 l2 l3 e1 e2 e3 er)∧an fr 8= .ptr .L 37 1 0∧an fr 209= .i .i64 (W:Int)∧an fr 210= .i .i64 (k:Int)∧a6 kf 2=k2∧a6 kf 3=k3∧a6 kf 35=wy∧a6 kf 37=⟨1,.cells (nC zT aT fT c F a8 a9 H iH iG (nP J K N O D U V (.b I))) 0 true⟩) _ W ?_ ?_ 0 _ (Nat.zero_le _) ⟨fr,lh,R0,ZD,by rw[mJ],Ku,Z,X,hi,o2,o3,nG,Y⟩)
 ·rintro k _ hk ⟨fr,kf,R,I,rfl,rA,Z,X,hi,o2,o3,nG,Y⟩
  left
  have iU:(k:Int)<W:=by omega
  have hw:=iX (k:=k) (by omega)
  have GW: ∃i g,D= .isl .S (i+7) g 0 W 3:=by
   rcases hn2 with⟨_,h⟩|h
   ·omega
   ·exact h
  obtain⟨i0,g0,GW⟩:=GW
  rcases rA (3,D,e2) (by simp[oP])with⟨nw,_⟩|⟨i,g,n,cs,wm,hv,hE,rW,hn,hB,hfz⟩
  ·simp only[GW]at nw;cases nw
  simp only[GW]at hv
  injection hv with _ q1 q2 _ q3 _
  have q1:i0=i:=by omega
  subst q1 q2 q3
  obtain⟨f,b,cb,r,hdr,hb,hfs,aBW⟩:=hfz.at3 hn hk
  have hus:=aiI (p:=1) f b cb r hb hfs (by omega)
  have hcz:=hfz.froz
  have hz: ∀lh,fzV lh (mw F m kn R) false (.ptr .S (i0+7) g0 (k*3))=some (.vp (.i .i64 f.op:: .i .i64 f.num::b::r),[(.S,i0+7,⟨g0,.cells cs cs.length false⟩)]):=fun lh=>by
   rw[Mz (by rw[HU];exact hE) hcz,hdr]
  have hzL: ∀lh,Dn lh (mw F m kn R) false [.ptr .S (i0+7) g0 (k*3),.i .i64 1]=some ([.vp (.i .i64 f.op:: .i .i64 f.num::b::r),.i .i64 1],[(.S,i0+7,⟨g0,.cells cs cs.length false⟩)]):=fun lh=>by
   rw[rX,rX,Ds,hz lh,tS (by rfl)];rfl
  have oi: ∀x,scalar (.b x)=true:=fun _=>rfl
  unfold nC jb nP at Y ⊢
  simp only[List.cons_append,List.nil_append,GW]at Y ⊢
  cases I with
  |true=>
   simp only[qA,seval,pQ,Z,X,hi,Y,iU,hw]
   refine⟨_,rfl,_,_,R,true,rfl,(by rw[←GW];exact rA), ?_, ?_, ?_, ?_, ?_, ?_, ?_⟩
   all_goals (simp only[qA,seval,Z,X,o2,o3,nG])
  |false=>
   simp only[qA,seval,lZ,pQ,Z,X,hi,Y,iU,hw,hzL,hus,oi,arj,hk]
   refine⟨_,rfl,_,_,R,f.us 1,rfl,(by rw[←GW];exact rA), ?_, ?_, ?_, ?_, ?_, ?_, ?_⟩
   all_goals (simp only[qA,seval,Z,X,o2,o3,nG])
 ·rintro _ ⟨fr,kf,R,I,rfl,rA,Z,X,hi,o2,o3,nG,Y⟩
  simp only[qA,seval,pQ,X,hi,Int.lt_irrefl]
  exact⟨_,_,oH,rfl,rfl,o2,o3,nG,R,I,rfl,rA,Y⟩
theorem aB0{fr:Fr}{lh:iL iy}{sh:List iy}{D:Option (Out×St)}(l:List Zo)(I:(l.map Zo.nm).Nodup)(a:T)(J:List T)(Y:iJ a l.length J)(Z:iK DB l J)(H:l.length≤100)(K N C5 NU:iy)(hD:DC pE 232 (.loop pU) ⟨fr,lh,sh⟩=D)
  (h9:an fr 9= .mp .L 38 1) (O:an fr 40=a) (U:an fr 41= .i .i64 (l.length:Int)) (V:an fr 42= .i .i64 0) (o2:a6 lh 2=K) (o3:a6 lh 3=N) (nG:a6 lh 35=C5) (kC:a6 lh 37=NU) (MA:a6 lh 38=⟨1,.map [] [] false⟩):
  ∃(W:Fr) (F:iL iy) (X:List iy),D=some (.ext 0,⟨W,F,X⟩)∧(a6 F 2=K∧a6 F 3=N∧a6 F 35=C5∧a6 F 37=NU∧(∃m,a6 F 38=⟨1,.map (m.map fun p=>sK p.1) (m.map fun p=>T.agg p.2) false⟩∧Pc l m∧m.map Prod.fst=l.map Zo.nm)∧X=sh)∧ ∀s,(jU (.loop pU)).contains s=false→an W s=an fr s:=by
 obtain⟨e,r⟩:=nwz l I a J Y Z H K N C5 NU fr lh sh h9 O U V o2 o3 nG kC MA
 exact⟨_,_,_,hD.symm.trans e,r,fun s hs=>lH e s hs⟩
theorem aB1{fr:Fr}{lh:iL iy}{sh:List iy}{D:Option (Out×St)}(l:List Ap)(K:(l.map Ap.cd).Nodup)(a:T)(N:List T)(ha:iJ a l.length N)(hc:iK N4 l N)(H:l.length≤100)(I:List Zo)(m:List (List Nat×List T))(O:Pc I m∧m.map Prod.fst=I.map Zo.nm)(U: ∀u∈l,u.zn∈I.map Zo.nm)(V W X:T)(c:Ct)(Y Z a9 F iH iG:T)(vs:List T)(c2 c3:iy)(hD:DC pE 232 (.loop qR) ⟨fr,lh,sh⟩=D)
  (h8:an fr 8= .ptr .L 37 1 0) (h9:an fr 9= .mp .L 38 1) (U5:an fr 52=a) (vD:an fr 53= .i .i64 (l.length:Int)) (vU:an fr 54= .i .i64 0) (o2:a6 lh 2=c2) (o3:a6 lh 3=c3) (nG:a6 lh 35=⟨1,.map [] [] false⟩) (kC:a6 lh 37=⟨1,.cells (nC V W X c Y Z a9 F iH iG vs) 0 true⟩) (MA:a6 lh 38=⟨1,.map (m.map fun p=>sK p.1) (m.map fun p=>T.agg p.2) false⟩):
  ∃(jB:Fr) (J:iL iy) (jk:List iy),D=some (.ext 2,⟨jB,J,jk⟩)∧(a6 J 2=c2∧a6 J 3=c3∧a6 J 37=⟨1,.cells (nC V W X c Y Z a9 F iH iG vs) 0 true⟩∧(∃q,a6 J 35=⟨1,.map (q.map fun p=>sK p.1) (q.map fun p=>T.agg p.2) false⟩∧T3 I l q∧q.map Prod.fst=l.map Ap.cd)∧jk=sh)∧ ∀s,(jU (.loop qR)).contains s=false→an jB s=an fr s:=by
 obtain⟨e,r⟩:=nwa l K a N ha hc H I m O U V W X c Y Z a9 F iH iG vs c2 c3 fr lh sh h8 h9 U5 vD vU o2 o3 nG kC MA
 exact⟨_,_,_,hD.symm.trans e,r,fun s hs=>lH e s hs⟩
theorem aB2{fr:Fr}{lh:iL iy}{sh:List iy}{D:Option (Out×St)}(c:Ct)(H I:T)(N O:List T)(i7:iJ H c.cs.length N)(j7:lB c.cs N)(i8:iJ I c.ru.length O)(j8:iK U6 c.ru O)(J:c.ru.length≤40)(sE: ∀u∈c.ru,Mx c.cs u.sc u.x)(U V W X F Y Z nb:T)(c2 c3 C5:iy)(FJ:List (Nat×Int))(B0:pJ c.cs FJ)(hD:DC pE 232 (.loop nR) ⟨fr,lh,sh⟩=D)(mJ:sh=mw H (jP c.cs c.cs.length) FJ [])
  (h8:an fr 8= .ptr .L 37 1 0) (jG:an fr 14= .ptr .S 2 1 0) (MB:an fr 73=I) (Kv:an fr 74= .i .i64 (c.ru.length:Int)) (U7:an fr 75= .i .i64 0) (o2:a6 lh 2=c2) (o3:a6 lh 3=c3) (nG:a6 lh 35=C5) (kC:a6 lh 37=⟨1,.cells (nC U V W c H I X F Y Z (nP .nilsl .nilsl .nilsl .nilsl .nilsl .nilsl .nilsl nb)) 0 true⟩):
  ∃(jB:Fr) (K:iL iy) (jk:List iy),D=some (.ext 4,⟨jB,K,jk⟩)∧(a6 K 2=c2∧a6 K 3=c3∧a6 K 35=C5∧ ∃(R:List iy) (kn:List (Nat×Int)) (r1 r2 r3:T),jk=mw H (jP c.cs c.cs.length) kn R∧pJ c.cs kn∧mr R 40 (oP r1 r2 r3 .nilsl .nilsl .nilsl .nilsl (AI c 1 c.ru.length) (AI c 2 c.ru.length) (AI c 3 c.ru.length) [] [] [] [])∧a6 K 37=⟨1,.cells (nC U V W c H I X F Y Z (nP r1 r2 r3 .nilsl .nilsl .nilsl .nilsl nb)) 0 true⟩)∧ ∀s,(jU (.loop nR)).contains s=false→an jB s=an fr s:=by
 obtain⟨e,r⟩:=nwr c H I N O i7 j7 i8 j8 J sE U V W X F Y Z nb c2 c3 C5 FJ B0 fr lh sh mJ h8 jG MB Kv U7 o2 o3 nG kC
 exact⟨_,_,_,hD.symm.trans e,r,fun s hs=>lH e s hs⟩
theorem aB3{fr:Fr}{lh:iL iy}{sh:List iy}{D:Option (Out×St)}(c:Ct)(H I:T)(V W:List T)(i7:iJ H c.cs.length V)(j7:lB c.cs V)(i9:iJ I c.co.length W)(j9:iK CoR c.co W)(J:c.co.length≤40)(sE: ∀u∈c.co,Mx c.cs u.sc u.x)(X Y Z a8 F iH iG nb K N O:T)(k2 k3 wy:iy)(FJ:List (Nat×Int))(B0:pJ c.cs FJ)(R0:List iy)(l1 l2 l3:RL)(Ku:mr R0 40 (oP K N O .nilsl .nilsl .nilsl .nilsl l1 l2 l3 [] [] [] []))(hD:DC pE 232 (.loop qQ) ⟨fr,lh,sh⟩=D)(mJ:sh=mw H (jP c.cs c.cs.length) FJ R0)
  (h8:an fr 8= .ptr .L 37 1 0) (jG:an fr 14= .ptr .S 2 1 0) (Pd:an fr 105=I) (MC:an fr 106= .i .i64 (c.co.length:Int)) (MD:an fr 107= .i .i64 0) (o2:a6 lh 2=k2) (o3:a6 lh 3=k3) (nG:a6 lh 35=wy) (kC:a6 lh 37=⟨1,.cells (nC X Y Z c H a8 I F iH iG (nP K N O .nilsl .nilsl .nilsl .nilsl nb)) 0 true⟩):
  ∃(jB:Fr) (U:iL iy) (jk:List iy),D=some (.ext 6,⟨jB,U,jk⟩)∧(a6 U 2=k2∧a6 U 3=k3∧a6 U 35=wy∧ ∃(R:List iy) (kn:List (Nat×Int)) (c1 c2 c3:T),jk=mw H (jP c.cs c.cs.length) kn R∧pJ c.cs kn∧mr R 80 (oP K N O c1 c2 c3 .nilsl l1 l2 l3 (yX c 1 c.co.length) (yX c 2 c.co.length) (yX c 3 c.co.length) [])∧a6 U 37=⟨1,.cells (nC X Y Z c H a8 I F iH iG (nP K N O c1 c2 c3 .nilsl nb)) 0 true⟩)∧ ∀s,(jU (.loop qQ)).contains s=false→an jB s=an fr s:=by
 obtain⟨e,r⟩:=nwc c H I V W i7 j7 i9 j9 J sE X Y Z a8 F iH iG nb K N O k2 k3 wy FJ B0 R0 l1 l2 l3 Ku fr lh sh mJ h8 jG Pd MC MD o2 o3 nG kC
 exact⟨_,_,_,hD.symm.trans e,r,fun s hs=>lH e s hs⟩
theorem aB4{fr:Fr}{lh:iL iy}{sh:List iy}{D:Option (Out×St)}(c:Ct)(H F:T)(X Y:List T)(i7:iJ H c.cs.length X)(j7:lB c.cs X)(Z:iJ F c.cr.length Y)(yx:kz c.cr Y)(I:c.cr.length≤40)(sE: ∀u∈c.cr,Mx c.cs 1 u)(zT aT fT a8 a9 iH iG nb J K N O U V:T)(k2 k3 wy:iy)(FJ:List (Nat×Int))(B0:pJ c.cs FJ)(R0:List iy)(l1 l2 l3 q1 q2 q3:RL)(Ku:mr R0 80 (oP J K N O U V .nilsl l1 l2 l3 q1 q2 q3 []))(hD:DC pE 232 (.loop pT) ⟨fr,lh,sh⟩=D)(mJ:sh=mw H (jP c.cs c.cs.length) FJ R0)
  (h8:an fr 8= .ptr .L 37 1 0) (jG:an fr 14= .ptr .S 2 1 0) (Jm:an fr 156=F) (GV:an fr 157= .i .i64 (c.cr.length:Int)) (My:an fr 158= .i .i64 0) (o2:a6 lh 2=k2) (o3:a6 lh 3=k3) (nG:a6 lh 35=wy) (kC:a6 lh 37=⟨1,.cells (nC zT aT fT c H a8 a9 F iH iG (nP J K N O U V .nilsl nb)) 0 true⟩):
  ∃(jB:Fr) (W:iL iy) (jk:List iy),D=some (.ext 8,⟨jB,W,jk⟩)∧(a6 W 2=k2∧a6 W 3=k3∧a6 W 35=wy∧ ∃(R:List iy) (kn:List (Nat×Int)) (cr:T),jk=mw H (jP c.cs c.cs.length) kn R∧pJ c.cs kn∧mr R 120 (oP J K N O U V cr l1 l2 l3 q1 q2 q3 (T2 c c.cr.length))∧a6 W 37=⟨1,.cells (nC zT aT fT c H a8 a9 F iH iG (nP J K N O U V cr nb)) 0 true⟩)∧ ∀s,(jU (.loop pT)).contains s=false→an jB s=an fr s:=by
 obtain⟨e,r⟩:=nwd c H F X Y i7 j7 Z yx I sE zT aT fT a8 a9 iH iG nb J K N O U V k2 k3 wy FJ B0 R0 l1 l2 l3 q1 q2 q3 Ku fr lh sh mJ h8 jG Jm GV My o2 o3 nG kC
 exact⟨_,_,_,hD.symm.trans e,r,fun s hs=>lH e s hs⟩
theorem avr{fr:Fr}{lh:iL iy}{sh:List iy}{D:Option (Out×St)}(c:Ct)(I Y Z F iH iG zT aT fT J H K N O U V:T)(m:List (List Nat×Nat))(kn:List (Nat×Int))(ZD:Bool)(R0:List iy)(l1 l2 l3 e1 e2 e3 er:RL)(Ku:yW R0 (oP J H K N O U V l1 l2 l3 e1 e2 e3 er))(W:Nat)(hn2:(H= .nilsl∧W=0)∨ ∃i g,H= .isl .S (i+7) g 0 W 4)(hn1:W≤1000)(k2 k3 wy:iy)(hD:DC pE 232 (.loop pR) ⟨fr,lh,sh⟩=D)(mJ:sh=mw I m kn R0)
  (h8:an fr 8= .ptr .L 37 1 0) (hl:an fr 181= .i .i64 (W:Int)) (hi:an fr 182= .i .i64 0) (o2:a6 lh 2=k2) (o3:a6 lh 3=k3) (nG:a6 lh 35=wy) (kC:a6 lh 37=⟨1,.cells (nC zT aT fT c I Y Z F iH iG (nP J H K N O U V (.b ZD))) 0 true⟩):
  ∃(jB:Fr) (X:iL iy) (jk:List iy),D=some (.ext 10,⟨jB,X,jk⟩)∧(a6 X 2=k2∧a6 X 3=k3∧a6 X 35=wy∧ ∃(R:List iy) (nb:Bool),jk=mw I m kn R∧yW R (oP J H K N O U V l1 l2 l3 e1 e2 e3 er)∧a6 X 37=⟨1,.cells (nC zT aT fT c I Y Z F iH iG (nP J H K N O U V (.b nb))) 0 true⟩)∧ ∀s,(jU (.loop pR)).contains s=false→an jB s=an fr s:=by
 obtain⟨e,r⟩:=aBV c I Y Z F iH iG zT aT fT J H K N O U V m kn ZD R0 l1 l2 l3 e1 e2 e3 er Ku W hn2 hn1 k2 k3 wy fr lh sh mJ h8 hl hi o2 o3 nG kC
 exact⟨_,_,_,hD.symm.trans e,r,fun s hs=>lH e s hs⟩
theorem avs{fr:Fr}{lh:iL iy}{sh:List iy}{D:Option (Out×St)}(c:Ct)(I Y Z F iH iG zT aT fT J K N O H U V:T)(m:List (List Nat×Nat))(kn:List (Nat×Int))(ZD:Bool)(R0:List iy)(l1 l2 l3 e1 e2 e3 er:RL)(Ku:yW R0 (oP J K N O H U V l1 l2 l3 e1 e2 e3 er))(W:Nat)(hn2:(H= .nilsl∧W=0)∨ ∃i g,H= .isl .S (i+7) g 0 W 3)(hn1:W≤1000)(k2 k3 wy:iy)(hD:DC pE 232 (.loop pQ) ⟨fr,lh,sh⟩=D)(mJ:sh=mw I m kn R0)
  (h8:an fr 8= .ptr .L 37 1 0) (hl:an fr 209= .i .i64 (W:Int)) (hi:an fr 210= .i .i64 0) (o2:a6 lh 2=k2) (o3:a6 lh 3=k3) (nG:a6 lh 35=wy) (kC:a6 lh 37=⟨1,.cells (nC zT aT fT c I Y Z F iH iG (nP J K N O H U V (.b ZD))) 0 true⟩):
  ∃(jB:Fr) (X:iL iy) (jk:List iy),D=some (.ext 12,⟨jB,X,jk⟩)∧(a6 X 2=k2∧a6 X 3=k3∧a6 X 35=wy∧ ∃(R:List iy) (nb:Bool),jk=mw I m kn R∧yW R (oP J K N O H U V l1 l2 l3 e1 e2 e3 er)∧a6 X 37=⟨1,.cells (nC zT aT fT c I Y Z F iH iG (nP J K N O H U V (.b nb))) 0 true⟩)∧ ∀s,(jU (.loop pQ)).contains s=false→an jB s=an fr s:=by
 obtain⟨e,r⟩:=aBZ c I Y Z F iH iG zT aT fT J K N O H U V m kn ZD R0 l1 l2 l3 e1 e2 e3 er Ku W hn2 hn1 k2 k3 wy fr lh sh mJ h8 hl hi o2 o3 nG kC
 exact⟨_,_,_,hD.symm.trans e,r,fun s hs=>lH e s hs⟩
theorem ZE{R:List iy}{r:List (Nat×T×RL)}{sz:Nat}{v:T}(l:RL)(h:yW R r)(D:(sz,v,l)∈r): ∃n:Nat,((v= .nilsl∧n=0)∨ ∃i g,v= .isl .S (i+7) g 0 n sz)∧n≤1000∧lenI v=some (.i .i64 (n:Int)):=by
 rcases h _ D with⟨h,_⟩|⟨i,g,n,cs,wm,h1,h2,h3,h4,h5,h6⟩
 ·simp only at h;subst h;exact⟨0,.inl ⟨rfl,rfl⟩,by omega,rfl⟩
 ·simp only at h1;subst h1;exact⟨n,.inr ⟨i,g,rfl⟩,h5,rfl⟩
theorem ZF{m:Nat}{lh:iL iy}{sh:List iy}{k g wm:Nat}{cs:List T}{bx:Bool}(h:a6 lh k=⟨g,.cells cs wm bx⟩):fzW (m+1) lh sh false (.ptr .L k g 0)=(GQ m lh sh false cs).map fun q=>(.vp q.1,q.2++ [(.L,k,⟨g,.cells cs cs.length bx⟩)]):=by
 have r:(St.mk .nil lh sh).get .L k=a6 lh k:=rfl
 unfold fzW GQ
 rw[fz]
 simp only[Bool.false_and,Bool.false_eq_true,if_false,Q.run,r,h,if_true,List.drop_zero]
 rw[jq]
 cases (jm (fz false (m+1)) cs).run (St.mk .nil lh sh).get sh.length <;> rfl
def N5(sz:Nat)(l:RL)(v:T):Prop:= ∃n cs,iJ v n cs∧n*sz=cs.length∧A7 sz l cs
theorem yY{R:List iy}{D:List (Nat×T×RL)}{sz:Nat}{v:T}(l:RL)(h:yW R D)(H:(sz,v,l)∈D)(F:T)(m:List (List Nat×Nat))(kn:List (Nat×Int)): ∃r us,froz1 r=true∧(∀lh n,fzW n lh (mw F m kn R) false v=some (r,us))∧N5 sz l r:=by
 rcases h _ H with⟨h,hl⟩|⟨i,g,n,cs,wm,h1,h2,h3,h4,h5,h6⟩
 ·simp only at h hl;subst h hl;exact⟨.nilsl,[],rfl,fun lh n=>BX rfl,0,[],.inl ⟨rfl,rfl,rfl⟩,by simp,A7.nil sz⟩
 ·simp only at h1 h4 h6;subst h1
  refine⟨.sl ((cs.drop 0).take (n*sz)) n false,[(.S,i+7,⟨g,.cells cs cs.length false⟩)],rfl,fun lh k=> ?_,n,cs,.inr ⟨false,by rw[h4];simp⟩,h4,h6⟩
  have I:(St.mk .nil lh (mw F m kn R)).get .S (i+7)=iM R i:=HU _ _ _ _ _
  simp_all[fzW,fz,Bool.false_and,Bool.false_eq_true,Q.run,Nat.zero_add,Nat.le_refl]
def ME(t:Tt)(c:Ct)(N:List T):Prop:= ∃(q:List (List Nat×List T)) (r D F H I J K:T) (O:Bool),N= [.vm (q.map fun p=>sK p.1) (q.map fun p=>T.agg p.2),.nilsl,r,D,F,.nilsl,H,I,J,K,.b O]∧T3 t.zo t.ap q∧q.map Prod.fst=t.ap.map Ap.cd∧
 N5 4 (AI c 1 c.ru.length) r∧N5 4 (AI c 2 c.ru.length) D∧N5 4 (AI c 3 c.ru.length) F∧N5 3 (yX c 1 c.co.length) H∧N5 3 (yX c 2 c.co.length) I∧N5 3 (yX c 3 c.co.length) J∧N5 3 (T2 c c.cr.length) K
theorem avt(t:Tt)(c:Ct)(J K O H U V F W X:T)(hT:ue t J K O)(hC:uF c H U V F W X)(hS:AJ c)(ht:uf t=0)(hc:nL c=0)(hnz:(t.zo.map Zo.nm).Nodup)(hlz:t.zo.length≤100)(hna:(t.ap.map Ap.cd).Nodup)(hla:t.ap.length≤100)(hzn: ∀u∈t.ap,u.zn∈t.zo.map Zo.nm)
  (hru: ∀u∈c.ru,Mx c.cs u.sc u.x) (lru:c.ru.length≤40) (De: ∀u∈c.co,Mx c.cs u.sc u.x) (lco:c.co.length≤40) (hcr: ∀u∈c.cr,Mx c.cs 1 u) (lcr:c.cr.length≤40) (lcs:c.cs.length≤32):
  ∃s vs,be pE 17 [.agg [J,K,O],.agg (jb c H U V F W X)] []=some (.tup [.vp (J::K::O::(jb c H U V F W X++vs)),.i .i64 0],s)∧vs.all froz1=true∧vs.length=11∧ME t c vs:=by
 have hpt:=Pe t J K O hT
 obtain⟨s1,hpc⟩:=Q5 c H U V F W X hC hS
 rw[ht]at hpt
 rw[hc]at hpc
 obtain⟨⟨zc,z1,z2⟩,⟨ac,b1,b2⟩,⟨fc,f1,f2⟩⟩:=hT
 obtain⟨⟨c7,i7,j7⟩,⟨c8,i8,j8⟩,⟨c9,i9,j9⟩,⟨tE,i10,yx⟩,⟨vN,i11,A8⟩,⟨vZ,i12,CV⟩⟩:=hC
 have hfT:=f1.froz1
 have hnc:=alN c.cs H c7 i7 j7 (by unfold pG;omega)
 rw[show Jq H (jP c.cs c.cs.length) [] 4=mw H (jP c.cs c.cs.length) [] []by unfold mw;rw[List.append_nil]]at hnc
 have hk7:kept H=true:=by rcases i7 with⟨rfl,_,_⟩|⟨ex,rfl⟩ <;> rfl
 rw[iD acu (by simp[c17])]
 unfold jb at hpc ⊢
 simp only[qA,seval,c17,hpt,hpc,ajE,arf,z1.froz1,b1.froz1,f1.froz1,i7.froz1,i8.froz1,i9.froz1,i10.froz1,i11.froz1,i12.froz1,z1.lenI]
 generalize N:DC pE 232 (.loop pU) _=D
 obtain⟨f1,l1,s2,rfl,⟨o2,Y,nG,Z,⟨m,MA,hm⟩,rfl⟩,I⟩:=aB0 t.zo hnz J zc z1 z2 hlz ⟨1,.cells [J,K,O] 0 true⟩ ⟨1,.cells [.i .i64 c.rp,.i .i64 c.rl,.i .i64 c.cn,.i .i64 c.st,.i .i64 c.ly,.i .i64 c.nf,.i .i64 c.nt,H,U,V,F,W,X,.i .i64 c.gu] 0 true⟩ ⟨1,.map [] [] false⟩ ⟨1,.cells (nC J K O c H U V F W X (nP .nilsl .nilsl .nilsl .nilsl .nilsl .nilsl .nilsl (.b false))) 0 true⟩ N (by simp only[qA,seval]) (by simp only[qA,seval]) (by simp only[qA,seval]) (by simp only[qA,seval]) (by simp only[qA,seval]) (by simp only[qA,seval]) (by simp only[qA,seval]) (by unfold nC jb nP;simp only[List.cons_append,List.nil_append];simp only[qA,seval]) (by simp only[qA,seval])
 have avu:an f1 2= .ptr .L 2 1 0:=by rw[I 2 (by decide)];simp only[qA,seval]
 have aB6:an f1 3= .ptr .L 3 1 0:=by rw[I 3 (by decide)];simp only[qA,seval]
 have avv:an f1 8= .ptr .L 37 1 0:=by rw[I 8 (by decide)];simp only[qA,seval]
 have aB7:an f1 9= .mp .L 38 1:=by rw[I 9 (by decide)];simp only[qA,seval]
 clear I
 simp only[qA,seval,avu,o2,b1.lenI]
 have r:=Z
 unfold nC jb nP at r
 simp only[List.cons_append,List.nil_append]at r
 clear N
 generalize N:DC pE 232 (.loop qR) _=D
 obtain⟨f2,l1,s2,rfl,⟨o2,Y,Z,⟨q,nG,hq⟩,rfl⟩,I⟩:=aB1 t.ap hna K ac b1 b2 hla t.zo m hm hzn J K O c H U V F W X (nP .nilsl .nilsl .nilsl .nilsl .nilsl .nilsl .nilsl (.b false)) ⟨1,.cells [J,K,O] 0 true⟩ ⟨1,.cells [.i .i64 c.rp,.i .i64 c.rl,.i .i64 c.cn,.i .i64 c.st,.i .i64 c.ly,.i .i64 c.nf,.i .i64 c.nt,H,U,V,F,W,X,.i .i64 c.gu] 0 true⟩ N (by simp only[qA,seval,avv]) (by simp only[qA,seval,aB7]) (by simp only[qA,seval]) (by simp only[qA,seval]) (by simp only[qA,seval]) (by simp only[o2]) (by simp only[Y]) (by simp only[nG]) (by unfold nC jb nP;simp only[List.cons_append,List.nil_append];simp only[r]) (by simp only[MA])
 have aHa:an f2 2= .ptr .L 2 1 0:=by rw[I 2 (by decide)];simp(maxDischargeDepth:=6) only[qA,seval,avu]
 have avw:an f2 3= .ptr .L 3 1 0:=by rw[I 3 (by decide)];simp only[qA,seval,aB6]
 have avx:an f2 8= .ptr .L 37 1 0:=by rw[I 8 (by decide)];simp only[qA,seval,avv]
 clear I r
 simp only[qA,seval,avw,Y,hk7,hnc,aAb,i8.lenI]
 have B0:pJ c.cs []:=fun i v h=>by simp[ja]at h
 have r:=Z
 unfold nC jb nP at r
 simp only[List.cons_append,List.nil_append]at r
 clear N
 generalize N:DC pE 232 (.loop nR) _=D
 obtain⟨f3,l1,s2,rfl,⟨o2,Y,nG,R,kn,r1,r2,r3,rfl,pK,rA,Z⟩,I⟩:=aB2 c H U c7 c8 i7 j7 i8 j8 lru hru J K O V F W X (.b false) ⟨1,.cells [J,K,O] 0 true⟩ ⟨1,.cells [.i .i64 c.rp,.i .i64 c.rl,.i .i64 c.cn,.i .i64 c.st,.i .i64 c.ly,.i .i64 c.nf,.i .i64 c.nt,H,U,V,F,W,X,.i .i64 c.gu] 0 true⟩ ⟨1,.map (q.map fun p=>sK p.1) (q.map fun p=>T.agg p.2) false⟩ [] B0 N rfl (by simp only[qA,seval,avx]) (by simp only[qA,seval]) (by simp only[qA,seval]) (by simp only[qA,seval]) (by simp only[qA,seval]) (by simp only[o2]) (by simp only[Y]) (by simp only[nG]) (by unfold nC jb nP;simp only[List.cons_append,List.nil_append];simp only[r])
 have avy:an f3 3= .ptr .L 3 1 0:=by rw[I 3 (by decide)];simp only[qA,seval,avw]
 have avz:an f3 8= .ptr .L 37 1 0:=by rw[I 8 (by decide)];simp only[qA,seval,avx]
 have aiL:an f3 14= .ptr .S 2 1 0:=by rw[I 14 (by decide)];simp only[qA,seval]
 clear I r
 simp only[qA,seval,avy,Y,i9.lenI]
 have r:=Z
 unfold nC jb nP at r
 simp only[List.cons_append,List.nil_append]at r
 clear N
 generalize N:DC pE 232 (.loop qQ) _=D
 obtain⟨f4,l1,s2,rfl,⟨o2,Y,nG,R1,MF,c1,c2,c3,rfl,pK,rA,Z⟩,I⟩:=aB3 c H V c7 c9 i7 j7 i9 j9 lco De J K O U F W X (.b false) r1 r2 r3 ⟨1,.cells [J,K,O] 0 true⟩ ⟨1,.cells [.i .i64 c.rp,.i .i64 c.rl,.i .i64 c.cn,.i .i64 c.st,.i .i64 c.ly,.i .i64 c.nf,.i .i64 c.nt,H,U,V,F,W,X,.i .i64 c.gu] 0 true⟩ ⟨1,.map (q.map fun p=>sK p.1) (q.map fun p=>T.agg p.2) false⟩ kn pK R _ _ _ rA N rfl (by simp only[qA,seval,avz]) (by simp only[qA,seval,aiL]) (by simp only[qA,seval]) (by simp only[qA,seval]) (by simp only[qA,seval]) (by simp only[o2]) (by simp only[Y]) (by simp only[nG]) (by unfold nC jb nP;simp only[List.cons_append,List.nil_append];simp only[r])
 have aB8:an f4 3= .ptr .L 3 1 0:=by rw[I 3 (by decide)];simp only[qA,seval,avy]
 have avA:an f4 8= .ptr .L 37 1 0:=by rw[I 8 (by decide)];simp only[qA,seval,avz]
 have avB:an f4 14= .ptr .S 2 1 0:=by rw[I 14 (by decide)];simp only[qA,seval,aiL]
 clear I r
 simp only[qA,seval,aB8,Y,i10.lenI]
 have r:=Z
 unfold nC jb nP at r
 simp only[List.cons_append,List.nil_append]at r
 clear N
 generalize N:DC pE 232 (.loop pT) _=D
 obtain⟨f5,l1,s2,rfl,⟨o2,Y,nG,R2,Q6,cr,rfl,pK,rA,Z⟩,I⟩:=aB4 c H F c7 tE i7 j7 i10 yx lcr hcr J K O U V W X (.b false) r1 r2 r3 c1 c2 c3 ⟨1,.cells [J,K,O] 0 true⟩ ⟨1,.cells [.i .i64 c.rp,.i .i64 c.rl,.i .i64 c.cn,.i .i64 c.st,.i .i64 c.ly,.i .i64 c.nf,.i .i64 c.nt,H,U,V,F,W,X,.i .i64 c.gu] 0 true⟩ ⟨1,.map (q.map fun p=>sK p.1) (q.map fun p=>T.agg p.2) false⟩ MF pK R1 _ _ _ _ _ _ rA N rfl (by simp only[qA,seval,avA]) (by simp only[qA,seval,avB]) (by simp only[qA,seval]) (by simp only[qA,seval]) (by simp only[qA,seval]) (by simp only[o2]) (by simp only[Y]) (by simp only[nG]) (by unfold nC jb nP;simp only[List.cons_append,List.nil_append];simp only[r])
 have alO:an f5 8= .ptr .L 37 1 0:=by rw[I 8 (by decide)];simp only[qA,seval,avA]
 clear I r
 have FH:=rA.toW (by omega)
 obtain⟨n2,hn2,aB9,NW⟩:=ZE (sz:=4) (v:=r2) (AI c 2 c.ru.length) FH (by simp[oP])
 obtain⟨n1,hn1,aCa,EU⟩:=ZE (sz:=3) (v:=c2) (yX c 2 c.co.length) FH (by simp[oP])
 have r:=Z
 unfold nC jb nP at r
 simp only[List.cons_append,List.nil_append]at r
 simp only[qA,seval,lZ,alO,r,NW]
 have r:=Z
 unfold nC jb nP at r
 simp only[List.cons_append,List.nil_append]at r
 clear N
 generalize N:DC pE 232 (.loop pR) _=D
 obtain⟨f6,l1,s2,rfl,⟨o2,Y,nG,R3,nb,rfl,hw3,Z⟩,I⟩:=avr c H U V F W X J K O r1 r2 r3 c1 c2 c3 cr _ Q6 false R2 _ _ _ _ _ _ _ FH n2 hn2 aB9 ⟨1,.cells [J,K,O] 0 true⟩ ⟨1,.cells [.i .i64 c.rp,.i .i64 c.rl,.i .i64 c.cn,.i .i64 c.st,.i .i64 c.ly,.i .i64 c.nf,.i .i64 c.nt,H,U,V,F,W,X,.i .i64 c.gu] 0 true⟩ ⟨1,.map (q.map fun p=>sK p.1) (q.map fun p=>T.agg p.2) false⟩ N rfl (by simp only[qA,seval,alO]) (by simp only[qA,seval]) (by simp only[qA,seval]) (by simp only[o2]) (by simp only[Y]) (by simp only[nG]) (by unfold nC jb nP;simp only[List.cons_append,List.nil_append];simp only[r])
 have alP:an f6 8= .ptr .L 37 1 0:=by rw[I 8 (by decide)];simp only[qA,seval,alO]
 clear I r
 have r:=Z
 unfold nC jb nP at r
 simp only[List.cons_append,List.nil_append]at r
 simp only[qA,seval,lZ,alP,r,EU]
 have r:=Z
 unfold nC jb nP at r
 simp only[List.cons_append,List.nil_append]at r
 clear N
 generalize N:DC pE 232 (.loop pQ) _=D
 obtain⟨f7,l1,s2,rfl,⟨o2,Y,nG,R4,nb1,rfl,hw4,Z⟩,I⟩:=avs c H U V F W X J K O r1 r2 r3 c1 c2 c3 cr _ Q6 nb R3 _ _ _ _ _ _ _ hw3 n1 hn1 aCa ⟨1,.cells [J,K,O] 0 true⟩ ⟨1,.cells [.i .i64 c.rp,.i .i64 c.rl,.i .i64 c.cn,.i .i64 c.st,.i .i64 c.ly,.i .i64 c.nf,.i .i64 c.nt,H,U,V,F,W,X,.i .i64 c.gu] 0 true⟩ ⟨1,.map (q.map fun p=>sK p.1) (q.map fun p=>T.agg p.2) false⟩ N rfl (by simp only[qA,seval,alP]) (by simp only[qA,seval]) (by simp only[qA,seval]) (by simp only[o2]) (by simp only[Y]) (by simp only[nG]) (by unfold nC jb nP;simp only[List.cons_append,List.nil_append];simp only[r])
 have aCb:an f7 8= .ptr .L 37 1 0:=by rw[I 8 (by decide)];simp only[qA,seval,alP]
 clear I r
 have r:=Z
 unfold nC jb nP at r
 simp only[List.cons_append,List.nil_append]at r
 simp only[qA,seval,aCb]
 obtain⟨x0,u0,y0,w0,z0⟩:=yY (sz:=4) (v:=r1) (AI c 1 c.ru.length) hw4 (by simp[oP]) H (jP c.cs c.cs.length) Q6
 obtain⟨x1,u1,y1,w1,z1'⟩:=yY (sz:=4) (v:=r2) (AI c 2 c.ru.length) hw4 (by simp[oP]) H (jP c.cs c.cs.length) Q6
 obtain⟨x2,u2,y2,w2,z2'⟩:=yY (sz:=4) (v:=r3) (AI c 3 c.ru.length) hw4 (by simp[oP]) H (jP c.cs c.cs.length) Q6
 obtain⟨x3,u3,y3,w3,z3⟩:=yY (sz:=3) (v:=c1) (yX c 1 c.co.length) hw4 (by simp[oP]) H (jP c.cs c.cs.length) Q6
 obtain⟨x4,u4,y4,w4,z4⟩:=yY (sz:=3) (v:=c2) (yX c 2 c.co.length) hw4 (by simp[oP]) H (jP c.cs c.cs.length) Q6
 obtain⟨x5,u5,y5,w5,z5⟩:=yY (sz:=3) (v:=c3) (yX c 3 c.co.length) hw4 (by simp[oP]) H (jP c.cs c.cs.length) Q6
 obtain⟨x6,u6,y6,w6,z6⟩:=yY (sz:=3) (v:=cr) (T2 c c.cr.length) hw4 (by simp[oP]) H (jP c.cs c.cs.length) Q6
 rw[ZF r]
 simp only[qA,seval,nG,mpV,z1.froz1,b1.froz1,hfT,i7.froz1,i8.froz1,i9.froz1,i10.froz1,i11.froz1,i12.froz1,w0,w1,w2,w3,w4,w5,w6]
 refine⟨_,_,rfl, ?_, ?_,q,x0,x1,x2,x3,x4,x5,x6,nb1, ?_,hq.1,hq.2,z0,z1',z2',z3,z4,z5,z6⟩
 ·simp only[List.all_cons,List.all_nil,y0,y1,y2,y3,y4,y5,y6,Bool.and_true,Bool.true_and];rfl
 ·rfl
 ·rfl
theorem ae5(t:Tt)(c:Ct)(D F H J K N r O U:T)(V:ue t D F H)(W:uF c J K N r O U)(X:uf t≠0):
  ∃s,be pE 17 [.agg [D,F,H],.agg (jb c J K N r O U)] []=some (.tup [.nilptr,.i .i64 (uf t)],s):=by
 have I:=Pe t D F H V
 obtain⟨⟨zc,Y,z2⟩,⟨ac,Z,b2⟩,⟨fc,f1,f2⟩⟩:=V
 obtain⟨⟨c7,i7,j7⟩,⟨c8,i8,j8⟩,⟨c9,i9,j9⟩,⟨tE,i10,yx⟩,⟨vN,i11,A8⟩,⟨vZ,i12,CV⟩⟩:=W
 rw[iD acu (by simp[c17])]
 unfold jb
 simp only[qA,seval,c17,I,X,ajE,Y.froz1,Z.froz1,f1.froz1]
 exact⟨_,rfl⟩
theorem nzo: ∀(l:List Zo) (seen:List (List Nat)),Kw seen l=0→(l.map Zo.nm).Nodup∧ ∀z∈l,z.nm∉seen
 | [],seen,_=>⟨List.nodup_nil,fun z D=>by cases D⟩
 |z::r,seen,h=>by
  rw[Kw]at h
  by_cases F:oB z=0
  ·rw[if_neg (by simp[F])]at h
   by_cases H:z.nm∈seen
   ·grind
   ·rw[if_neg H]at h
    obtain⟨I,J⟩:=nzo r _ h
    grind
  ·grind
theorem nap(D:List (List Nat)): ∀(l:List Ap) (seen:List (List Nat)),Kx D seen l=0→(l.map Ap.cd).Nodup∧ ∀z∈l,z.cd∉seen
 | [],seen,_=>⟨List.nodup_nil,fun z J=>by cases J⟩
 |z::r,seen,h=>by
  rw[Kx]at h
  by_cases K:GX z.cd=false
  ·grind
  ·rw[if_neg K]at h
   by_cases F:z.cd∈seen
   ·grind
   ·rw[if_neg F]at h
    by_cases H:z.zn∉D
    ·rw[if_pos H]at h;cases h
    ·rw[if_neg H]at h
     obtain⟨N,I⟩:=nap D r _ h
     refine⟨?_,fun y hy=> ?_⟩
     ·rw[List.map_cons,List.nodup_cons]
      refine⟨fun O=> ?_,N⟩
      obtain⟨y,hy,e⟩:=List.mem_map.1 O
      exact I y hy (by rw[e];simp)
     ·rcases List.mem_cons.1 hy with rfl|hy
      ·exact F
      ·exact fun hs=>I y hy (by simp[hs])
theorem nzn(D:List (List Nat)): ∀(l:List Ap) (seen:List (List Nat)),Kx D seen l=0→ ∀u∈l,u.zn∈D
 | [],seen,_,u,hu=>by cases hu
 |z::r,seen,h,u,hu=>by
  rw[Kx]at h
  by_cases H:GX z.cd=false
  ·grind
  ·rw[if_neg H]at h
   by_cases I:z.cd∈seen
   ·grind
   ·rw[if_neg I]at h
    by_cases F:z.zn∉D
    ·rw[if_pos F]at h;cases h
    ·rw[if_neg F]at h
     rcases List.mem_cons.1 hu with rfl|hu
     ·simpa using F
     ·exact nzn D r _ h u hu
theorem nzs: ∀(l:List Zo) (seen:List (List Nat)),Kw seen l=0→ ∀z∈l,oB z=0
 | [],seen,_,u,hu=>by cases hu
 |z::r,seen,h,u,hu=>by
  rw[Kw]at h
  by_cases D:oB z=0
  ·rw[if_neg (by simp[D])]at h
   by_cases F:z.nm∈seen
   ·grind
   ·rw[if_neg F]at h
    rcases List.mem_cons.1 hu with rfl|hu
    ·exact D
    ·exact nzs r _ h u hu
  ·grind
theorem nfl(D:List (List Nat)): ∀(l:List Fl) (p:Option Fl),Jr D p l=0→ ∀f∈l,MG D f=0
 | [],p,_,u,hu=>by cases hu
 |z::r,p,h,u,hu=>by
  unfold Jr at h
  by_cases H:MG D z=0
  ·rw[if_neg (by simp[H])]at h
   have F:Jr D (some z) r=0:=by
    grind
   rcases List.mem_cons.1 hu with rfl|hu
   ·exact H
   ·exact nfl D r _ F u hu
  ·grind
theorem AK(t:Tt)(h:uf t=0):(∀z∈t.zo,oB z=0)∧(∀u∈t.ap,u.zn∈t.zo.map Zo.nm)∧(∀f∈t.fl,MG (t.ap.map Ap.cd) f=0)∧t.fl.length≤200:=by
 unfold uf at h
 split at h
 ·cases h
 split at h
 ·cases h
 split at h
 ·cases h
 split at h
 ·grind
 split at h
 ·rename_i q;exact absurd h q
 rename_i a b c d e
 exact⟨nzs t.zo [] (by omega),nzn (t.zo.map Zo.nm) t.ap [] (by omega),nfl _ t.fl none h,by omega⟩
theorem Pf(t:Tt)(h:uf t=0):(t.zo.map Zo.nm).Nodup∧t.zo.length≤100∧(t.ap.map Ap.cd).Nodup∧t.ap.length≤100:=by
 unfold uf at h
 split at h
 ·cases h
 split at h
 ·cases h
 split at h
 ·cases h
 split at h
 ·grind
 split at h
 ·rename_i q;exact absurd h q
 rename_i a b c d e
 exact⟨(nzo t.zo [] (by omega)).1,by omega,(nap (t.zo.map Zo.nm) t.ap [] (by omega)).1,by omega⟩
theorem ZG: ∀(l:List Ru) (seen:List (Int×List Nat)),N6 seen l=0→ ∀u∈l,CW u.sc 1 3=true∧jD u.x=0
 | [],seen,_,u,hu=>by cases hu
 |v::l,seen,h,u,hu=>by
  rw[N6]at h
  split at h
  ·cases h
  split at h
  ·cases h
  split at h
  ·grind
  rename_i a b c
  rcases List.mem_cons.1 hu with rfl|hu
  ·exact⟨by cases r:CW u.sc 1 3 with|true=>rfl|false=>exact absurd (.inl r) a,by omega⟩
  ·exact ZG l _ h u hu
theorem ZH: ∀(l:List Co),Pg l=0→ ∀u∈l,CW u.sc 1 3=true∧jD u.x=0
 | [],_,u,hu=>by cases hu
 |v::l,h,u,hu=>by
  rw[Pg]at h
  split at h
  ·cases h
  split at h
  ·grind
  rename_i a c
  rcases List.mem_cons.1 hu with rfl|hu
  ·grind
  ·exact ZH l h u hu
theorem ZI: ∀(l:List Ex),Ph l=0→ ∀u∈l,jD u=0
 | [],_,u,hu=>by cases hu
 |v::l,h,u,hu=>by
  rw[Ph]at h
  split at h
  ·grind
  rename_i c
  rcases List.mem_cons.1 hu with rfl|hu
  ·omega
  ·exact ZI l h u hu
theorem ZJ{n:Int}(h:CW n 1 3=true):n=1∨n=2∨n=3:=by
 unfold CW at h
 simp only[Bool.and_eq_true,decide_eq_true_eq]at h
 omega
theorem Pj{l:Cs}{r:Int}{x:Ex}{w:Int}(F:jD x=0)(h:Pk l r x w=0): ∃k,x.ty (clk l (lz l l.length)) r=(k,0):=by
 have D:(ub l r x).2=0:=by
  unfold Pk at h
  split at h
  ·cases h
  ·exact h
 unfold ub at D
 rw[if_neg (by simp[F])]at D
 exact⟨(x.ty (clk l (lz l l.length)) r).1,Prod.ext rfl D⟩
theorem ZK(cs:Cs): ∀(l:List Ru),Pl cs l=0→ ∀u∈l,Pk cs u.sc u.x 4=0
 | [],_,u,hu=>by cases hu
 |v::l,h,u,hu=>by
  rw[Pl]at h
  split at h
  ·rename_i q;exact absurd h q
  rename_i c
  rcases List.mem_cons.1 hu with rfl|hu
  ·omega
  ·exact ZK cs l h u hu
theorem ZL(cs:Cs): ∀(l:List Co),Pm cs l=0→ ∀u∈l,Pk cs u.sc u.x 1=0
 | [],_,u,hu=>by cases hu
 |v::l,h,u,hu=>by
  rw[Pm]at h
  split at h
  ·rename_i q;exact absurd h q
  rename_i c
  rcases List.mem_cons.1 hu with rfl|hu
  ·omega
  ·exact ZL cs l h u hu
theorem ZM(cs:Cs): ∀(l:List Ex),Q7 cs l=0→ ∀u∈l,Pk cs 1 u 2=0
 | [],_,u,hu=>by cases hu
 |v::l,h,u,hu=>by
  rw[Q7]at h
  split at h
  ·rename_i q;exact absurd h q
  rename_i c
  rcases List.mem_cons.1 hu with rfl|hu
  ·omega
  ·exact ZM cs l h u hu
theorem tg(c:Ct)(h:nL c=0):(∀u∈c.ru,Mx c.cs u.sc u.x)∧c.ru.length≤40∧(∀u∈c.co,Mx c.cs u.sc u.x)∧c.co.length≤40∧(∀u∈c.cr,Mx c.cs 1 u)∧c.cr.length≤40∧c.cs.length≤32:=by
 unfold nL at h
 split at h
 ·rename_i q;exact absurd h q
 split at h
 ·rename_i q;exact absurd h q
 split at h
 ·rename_i q;exact absurd h q
 split at h
 ·rename_i q;exact absurd h q
 rename_i g _ r o
 have g:oQ c=0:=by omega
 unfold oQ at g
 split at g
 ·cases g
 split at g
 ·cases g
 split at g
 ·rename_i q;exact absurd g q
 split at g
 ·rename_i q;exact absurd g q
 split at g
 ·rename_i q;exact absurd g q
 split at g
 ·rename_i q;exact absurd g q
 rename_i _ sz _ F H I
 have sz:th c=true:=by simpa using sz
 unfold th at sz
 simp only[Bool.and_eq_true,decide_eq_true_eq]at sz
 refine⟨fun u D=> ?_,sz.2.1,fun u D=> ?_,by omega,fun u D=> ?_,by omega,sz.1⟩
 ·obtain⟨w,v⟩:=ZG c.ru [] (by omega) u D
  exact⟨ZJ w,v,Pj v (ZK c.cs c.ru (by omega) u D)⟩
 ·obtain⟨w,v⟩:=ZH c.co (by omega) u D
  exact⟨ZJ w,v,Pj v (ZL c.cs c.co (by omega) u D)⟩
 ·have v:=ZI c.cr (by omega) u D
  exact⟨.inl rfl,v,Pj v (ZM c.cs c.cr h u D)⟩
theorem alQ(t:Tt)(c:Ct)(D F H I J K r N O:T)(X:ue t D F H)(Y:uF c I J K r N O)(Z:AJ c)(V:uf t=0)(W:nL c=0):
  ∃s U,be pE 17 [.agg [D,F,H],.agg (jb c I J K r N O)] []=some (.tup [.vp (D::F::H::(jb c I J K r N O++U)),.i .i64 0],s)∧U.all froz1=true∧U.length=11∧ME t c U:=by
 obtain⟨p1,p2,p3,p4⟩:=Pf t V
 obtain⟨q1,q2,q3,q4,q5,q6,q7⟩:=tg c W
 exact avt t c D F H I J K r N O X Y Z V W p1 p2 p3 p4 (AK t V).2.1 q1 q2 q3 q4 q5 q6 q7
end Go.Proofs.YtjniffjppoklpaaGreat
