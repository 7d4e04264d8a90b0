/- Walks of functions of the program and of the reference, and their plain laws, part 10. Conditions: the theorems' own. -/
import Derived.Test.YtcpceiclnbmgiaaGreatM9
import Derived.KernelRfl
set_option maxRecDepth 100000
set_option linter.unusedSimpArgs false
set_option linter.unusedVariables false
set_option maxHeartbeats 16000000
namespace Go.Proofs.YtcpceiclnbmgiaaGreat
open Go Go.Ev
def acG:T→Bool
 | .ptr .S .. =>true
 |_=>false
theorem pT{k g off:Nat}:acG (.ptr .S k g off)=true:=nr rfl
def Nm:T→FP
 | .ptr .S k _ _=>⟨false,[(.S,k)],[(.S,k)]⟩
 |_=>qp
section
variable{E:Env}{call:qa}{n:Nat}{fr:Fr}{lh:iq b8}{sh:List b8}{ds:List (List Nat×dy)}{jN:List FP}{u:List Nat}
theorem BP{x v:iF}{m:Nat}(hx:acG (rd fr x)=true)(I:froz (rd fr v)=true):iP E call n ((u,⟨none,.st x v m,none⟩)::ds) jN ⟨fr,lh,sh⟩=
  if meets u jN (Nm (rd fr x))=true then ke E call n ds (jN++ [Nm (rd fr x)]) (eb E call n [⟨none,.st x v m,none⟩] ⟨fr,lh,sh⟩)else none:=by
 refine uC fun F=> ?_
 cases AU:rd fr x with
 |ptr sp k g off=>
  cases sp with
  |L=>rw[AU]at hx;simp[acG]at hx
  |S=>
   by_cases H:(decide ((cellsOf (rd fr v)).length≠m)|| !noTup (rd fr v))=true
   ·obtain⟨w,D,hr,i⟩:=wx (q:= .fail) (by rfl) (by rw[lp];simp only[jk,sd,AU];rw[if_pos H]) F
    simp[Q.run]at hr
   ·obtain⟨w,D,hr,i⟩:=wx (q:= .rd .S k (KG k g off m (rd fr v))) (by rfl) (by rw[lp];simp only[jk,sd,AU];rw[if_neg H];rfl) F
    simp only[Q.run,Q.log,Q.asks]at hr i
    generalize J:(St.mk fr lh sh).get .S k=e at hr i
    obtain⟨K,ob⟩:=e
    unfold KG at hr i
    by_cases r:K=g
    ·cases ob with
     |none=>simp[r,Q.run]at hr
     |map ks O z=>simp[r,Q.run]at hr
     |cells cs wm bx=>
      simp only[r,if_true]at hr i
      split at hr
      ·rename_i hc
       rw[if_pos hc]at i
       have hs:(bx&&(Sp.S==Sp.L))=false:=by cases bx <;> rfl
       rw[hs]at hr i
       simp only[Bool.false_eq_true,if_false]at hr i
       unfold iG at hr i
       rw[px I]at hr i
       simp only[Q.bind]at hr i
       split at hr
       ·simp[Q.run]at hr
       ·rename_i N
        rw[if_neg N]at i
        simp[Q.run]at hr
        obtain⟨rfl,rfl⟩:=hr
        rw[i (by simp[inB,Bu,J])]
        rfl
      ·simp[Q.run]at hr
    ·simp only[r,if_false,Q.run]at hr
     cases hr
 |_=>rw[AU]at hx;simp[acG]at hx
theorem lE{k g off:Nat}:Nm (.ptr .S k g off)=⟨false,[(.S,k)],[(.S,k)]⟩:=nr rfl
end
theorem nwd(c:Ct)(r U:T)(c7 F3:List T)(i7:IsSl r c.cs.length c7)(j7:mh c.cs c7)(i10:IsSl U c.cr.length F3)(Nn:ku c.cr F3)(hlen:c.cr.length≤40)(tW: ∀u∈c.cr,Se c.cs 1 u)(zT aT fT a8 a9 iy iw nb D F H I J K:T)(k2 k3 uK:b8)(Ek:List (Nat×Int))(AZ:oI c.cs Ek)(R0:List b8)(l1 l2 l3 q1 q2 q3:RL)(I0:lK R0 80 (nE D F H I J K .nilsl l1 l2 l3 q1 q2 q3 []))(fr:Fr)(lh:iq b8)(sh:List b8)(lU:sh=lL r (jt c.cs c.cs.length) Ek R0)
  (V:an fr 8= .ptr .L 37 1 0) (W:an fr 14= .ptr .S 2 1 0) (HW:an fr 156=U) (FN:an fr 157= .i .i64 (c.cr.length:Int)) (KV:an fr 158= .i .i64 0) (Y:b7 lh 2=k2) (Z:b7 lh 3=k3) (mE:b7 lh 35=uK) (N:b7 lh 37=⟨1,.cells (mz zT aT fT c r a8 a9 U iy iw (mL D F H I J K .nilsl nb)) 0 true⟩):
  wS 232 oP fr lh sh (.ext 8)∧
  (b7 (n5 pE 232 oP fr lh sh) 2=k2∧b7 (n5 pE 232 oP fr lh sh) 3=k3∧b7 (n5 pE 232 oP fr lh sh) 35=uK∧ ∃(R:List b8) (kn:List (Nat×Int)) (cr:T),oH pE 232 oP fr lh sh=lL r (jt c.cs c.cs.length) kn R∧oI c.cs kn∧lK R 120 (nE D F H I J K cr l1 l2 l3 q1 q2 q3 (Tn c c.cr.length))∧b7 (n5 pE 232 oP fr lh sh) 37=⟨1,.cells (mz zT aT fT c r a8 a9 U iy iw (mL D F H I J K cr nb)) 0 true⟩):=by
 refine jJ (P:=fun jO iR iT=>b7 iR 2=k2∧b7 iR 3=k3∧b7 iR 35=uK∧ ∃(R:List b8) (kn:List (Nat×Int)) (cr:T),iT=lL r (jt c.cs c.cs.length) kn R∧oI c.cs kn∧lK R 120 (nE D F H I J K cr l1 l2 l3 q1 q2 q3 (Tn c c.cr.length))∧b7 iR 37=⟨1,.cells (mz zT aT fT c r a8 a9 U iy iw (mL D F H I J K cr nb)) 0 true⟩)
  (j6 (fun k st=> ∃(fr:Fr) (X:iq b8) (R:List b8) (kn:List (Nat×Int)) (cr:T),st=⟨fr,X,lL r (jt c.cs c.cs.length) kn R⟩∧oI c.cs kn∧lK R (80+k) (nE D F H I J K cr l1 l2 l3 q1 q2 q3 (Tn c k))∧an fr 8= .ptr .L 37 1 0∧an fr 14= .ptr .S 2 1 0∧an fr 156=U∧an fr 157= .i .i64 (c.cr.length:Int)∧an fr 158= .i .i64 (k:Int)∧b7 X 2=k2∧b7 X 3=k3∧b7 X 35=uK∧b7 X 37=⟨1,.cells (mz zT aT fT c r a8 a9 U iy iw (mL D F H I J K cr nb)) 0 true⟩) _ c.cr.length ?_ ?_ 0 _ (Nat.zero_le _) ⟨fr,lh,R0,Ek,.nilsl,by rw[lU],AZ,I0,V,W,HW,FN,KV,Y,Z,mE,N⟩)
 ·rintro k _ hk ⟨fr,X,R,kn,cr,rfl,qn,qw,V,W,HW,FN,KV,Y,Z,mE,N⟩
  left
  have iX:(k:Int)<c.cr.length:=by omega
  have hw:=iN (k:=k) (by omega)
  obtain⟨b,cb,rr,jg,m9,sx,hb⟩:=si i10 Nn k hk
  obtain⟨nk,O,t,Ab⟩:=tW c.cr[k] (List.getElem_mem hk)
  have El:=(pg O).1
  obtain⟨cf,j1,im,yX,oJ,_⟩:=HX c.cs r R c.cs.length (Nat.le_refl _) (HY c.cs r R c7 i7 j7) 1 (.inr nk) c.cr[k] t kn _ qn hb El (oz O) (by rw[Em];exact Ab)
  have po:=CD (qd c.cs) 1 c.cr[k]
  have s1:=Xi c hk
  generalize c.cr[k]=u at*
  generalize comp (qd c.cs) 1 u=y at*
  obtain⟨fa,fc,rfl,B7,hf2⟩:=yX.cells
  have zw:Ac 3 [([],y)] [.i .i64 y.op,.i .i64 y.num,fa]:=by
   have:=(Ac.nil 3).app3 ([],y) _ yX (by show y.sz≤1000;omega)
   simpa using this
  have Ff:=HZ
  unfold mz jB mL at N ⊢
  simp only[List.cons_append,List.nil_append]at N ⊢
  rcases qw.1 (3,cr,Tn c k) (by simp[nE])with⟨mR,Bx⟩|⟨i,g,n,cs,hv,hE,hi,hn,hB,hfz⟩
  ·simp only at mR Bx
   subst mR
   rw[Bx,List.nil_append]at s1
   have wz:=(qw.mono (Nat.le_succ (80+k))).new (by omega) 6 (by simp[nE]) (sz:=3) rfl [.i .i64 y.op,.i .i64 y.num,fa] rfl _ zw
   simp only[qA,seval,repl,jI,sW,iE,lj,jl,j3,oP,V,W,HW,FN,KV,N,iX,jg,hw,im,ri,rZ,m9.kept1,B7.froz1,jV,kl,iK,jx,jR,GL,sY,GM,Ff,jY,ko,tX,Nat.lt_succ_self,BP,pT,lE]
   refine⟨_,rfl,_,_,iH R R.length ⟨1,.cells [.i .i64 y.op,.i .i64 y.num,fa] 0 false⟩,j1,.isl .S (R.length+7) 1 0 1 3,rfl,oJ,(by rw[s1];exact wz), ?_, ?_, ?_, ?_, ?_, ?_, ?_, ?_, ?_⟩
   all_goals (simp only[qA,seval,V,W,HW,FN,Y,Z,mE])
  ·simp only at hv
   subst hv
   have A0:=qw.app 6 (by simp[nE]) (sz:=3) rfl rfl hE hi hn hB [.i .i64 y.op,.i .i64 y.num,fa] rfl _ (hfz.app3 ([],y) _ yX (by show y.sz≤1000;omega)) (g+1)
   have wD:(n+1)*40≤roomy:=CE (by omega)
   simp only[qA,seval,repl,jI,sW,iE,lj,jl,j3,oP,V,W,HW,FN,KV,N,iX,jg,hw,im,ri,rZ,m9.kept1,B7.froz1,jV,kl,iK,ju,jS,jc,GL,sY,GM,jY,ko,mZ,tY,Nat.lt_succ_self,BP,pT,lE,hE,hn,wD]
   refine⟨_,rfl,_,_,iH R i ⟨g+1,.cells (cs++ [.i .i64 y.op,.i .i64 y.num,fa]) 0 false⟩,j1,.isl .S (i+7) (g+1) 0 (n+1) 3,rfl,oJ,(by rw[s1];exact A0), ?_, ?_, ?_, ?_, ?_, ?_, ?_, ?_, ?_⟩
   all_goals (simp only[qA,seval,V,W,HW,FN,Y,Z,mE])
 ·rintro _ ⟨fr,X,R,kn,cr,rfl,qn,qw,V,W,HW,FN,KV,Y,Z,mE,N⟩
  simp only[qA,seval,oP,FN,KV,Int.lt_irrefl]
  exact⟨_,_,uO,rfl,rfl,Y,Z,mE,R,kn,cr,rfl,qn,qw.mono (by omega),N⟩
theorem KW{lh:iq b8}{sh:List b8}{k g off wm:Nat}{cs:List T}(i:iz sh k=⟨g,.cells cs wm false⟩)(hc:cs.all froz1=true):fzV lh sh false (.ptr .S k g off)=some (.vp (cs.drop off),[(.S,k,⟨g,.cells cs cs.length false⟩)]):=by
 have r:(cs.drop off).all froz1=true:=by
  rw[List.all_eq_true]at hc ⊢
  exact fun x hx=>hc x (List.mem_of_mem_drop hx)
 have D:(St.mk .nil lh sh).get .S k=iz sh k:=rfl
 unfold fzV iG
 rw[fz]
 simp only[Bool.false_and,Bool.false_eq_true,if_false,Q.run,D,i,if_true]
 rw[nO _ r]
 rfl
theorem as8{f:Fm}{c:List T}(h:oB f c):c.all froz1=true:=by
 obtain⟨a,r,rfl,i,D⟩:=h.cells
 simp[i.froz1,zi]
theorem afY: ∀{l:List Fm} {cs:List T},iS l cs→cs.all froz1=true
 | [],cs,h=>by rw[iS]at h;rw[h];rfl
 |f::l,cs,h=>by
  rw[iS]at h
  obtain⟨c,r,i,D,F⟩:=h
  rw[i,List.all_append,as8 D,afY F];rfl
theorem as9: ∀{l:List (List Nat×Fm)} {cs:List T},iA ZW l cs→cs.all froz1=true
 | [],cs,h=>by rw[iA]at h;rw[h];rfl
 |u::l,cs,h=>by
  obtain⟨c,r,rfl,⟨F,rfl,i⟩,D⟩:=h
  rw[List.all_append,as9 D,List.all_cons,as8 i];rfl
theorem Ac.froz{sz:Nat}{l:RL}{cs:List T}(h:Ac sz l cs):cs.all froz1=true:=by
 have i:=h.1
 split at i
 ·exact as9 i
 ·exact afY i
theorem Ac.at4{l:RL}{cs:List T}(h:Ac 4 l cs){n k:Nat}(O:n*4=cs.length)(hk:k<n): ∃(f:Fm) (b:T) (D r:List T),cs.drop (k*4+1)= .i .i64 f.op:: .i .i64 f.num::b::r∧IsSl b f.args.length D∧iS f.args D∧f.sz≤1000:=by
 have H:=h.2
 have F:=h.1
 rw[if_pos rfl]at F
 have U:=iA.len ZW.len F
 have To:k<l.length:=by omega
 obtain⟨c,r,I,V,rfl,J⟩:=iA.drop ZW.len k To F
 obtain⟨b,D,rfl,K,N⟩:=J.cells
 refine⟨l[k].2,b,D,r, ?_,K,N,H _ (List.getElem_mem To)⟩
 rw[←List.drop_drop,I]
 rfl
theorem Ac.at3{l:RL}{cs:List T}(h:Ac 3 l cs){n k:Nat}(U:n*3=cs.length)(hk:k<n): ∃(f:Fm) (b:T) (D r:List T),cs.drop (k*3)= .i .i64 f.op:: .i .i64 f.num::b::r∧IsSl b f.args.length D∧iS f.args D∧f.sz≤1000:=by
 have I:=h.2
 have F:=h.1
 rw[if_neg (by decide)]at F
 have J:=iS.len F
 rw[List.length_map]at J
 have To:k<l.length:=by omega
 have Xg:k<(l.map Prod.snd).length:=by simpa using To
 obtain⟨c,r,K,H,_⟩:=iS.drop k Xg F
 rw[List.getElem_map]at H
 obtain⟨b,D,rfl,N,O⟩:=H.cells
 exact⟨l[k].2,b,D,r,K,N,O,I _ (List.getElem_mem To)⟩
def RwW(R:List b8)(p:Nat×T×RL):Prop:=(p.2.1= .nilsl∧p.2.2= [])∨ ∃i g n cs wm,p.2.1= .isl .S (i+7) g 0 n p.1∧iz R i=⟨g,.cells cs wm false⟩∧i<R.length∧n*p.1=cs.length∧n≤1000∧Ac p.1 p.2.2 cs
def xD(R:List b8)(i:List (Nat×T×RL)):Prop:= ∀p∈i,RwW R p
theorem lK.toW{R:List b8}{B:Nat}{r:List (Nat×T×RL)}(h:lK R B r)(N:B≤1000):xD R r:=fun p D=>by
 rcases h.1 p D with h|⟨i,g,n,cs,F,H,I,J,O,K⟩
 ·exact .inl h
 ·exact .inr ⟨i,g,n,cs,0,F,H,I,J,by omega,K⟩
theorem azu(c:Ct)(F a8 a9 iv iy iw zT aT fT I D J K N O cr:T)(m:List (List Nat×Nat))(kn:List (Nat×Int))(Xj:Bool)(R0:List b8)(l1 l2 l3 e1 e2 e3 er:RL)(I0:xD R0 (nE I D J K N O cr l1 l2 l3 e1 e2 e3 er))(U:Nat)(Fc:(D= .nilsl∧U=0)∨ ∃i g,D= .isl .S (i+7) g 0 U 4)(Cv:U≤1000)(k2 k3 uK:b8)(fr:Fr)(lh:iq b8)(sh:List b8)(lU:sh=lL F m kn R0)
  (X:an fr 8= .ptr .L 37 1 0) (V:an fr 181= .i .i64 (U:Int)) (hi:an fr 182= .i .i64 0) (Z:b7 lh 2=k2) (o3:b7 lh 3=k3) (mE:b7 lh 35=uK) (W:b7 lh 37=⟨1,.cells (mz zT aT fT c F a8 a9 iv iy iw (mL I D J K N O cr (.b Xj))) 0 true⟩):
  wS 232 oO fr lh sh (.ext 10)∧
  (b7 (n5 pE 232 oO fr lh sh) 2=k2∧b7 (n5 pE 232 oO fr lh sh) 3=k3∧b7 (n5 pE 232 oO fr lh sh) 35=uK∧ ∃(R:List b8) (H:Bool),oH pE 232 oO fr lh sh=lL F m kn R∧xD R (nE I D J K N O cr l1 l2 l3 e1 e2 e3 er)∧b7 (n5 pE 232 oO fr lh sh) 37=⟨1,.cells (mz zT aT fT c F a8 a9 iv iy iw (mL I D J K N O cr (.b H))) 0 true⟩):=by
 refine jJ (P:=fun jO iR iT=>b7 iR 2=k2∧b7 iR 3=k3∧b7 iR 35=uK∧ ∃(R:List b8) (H:Bool),iT=lL F m kn R∧xD R (nE I D J K N O cr l1 l2 l3 e1 e2 e3 er)∧b7 iR 37=⟨1,.cells (mz zT aT fT c F a8 a9 iv iy iw (mL I D J K N O cr (.b H))) 0 true⟩)
  (j6 (fun k st=> ∃(fr:Fr) (Y:iq b8) (R:List b8) (H:Bool),st=⟨fr,Y,lL F m kn R⟩∧xD R (nE I D J K N O cr l1 l2 l3 e1 e2 e3 er)∧an fr 8= .ptr .L 37 1 0∧an fr 181= .i .i64 (U:Int)∧an fr 182= .i .i64 (k:Int)∧b7 Y 2=k2∧b7 Y 3=k3∧b7 Y 35=uK∧b7 Y 37=⟨1,.cells (mz zT aT fT c F a8 a9 iv iy iw (mL I D J K N O cr (.b H))) 0 true⟩) _ U ?_ ?_ 0 _ (Nat.zero_le _) ⟨fr,lh,R0,Xj,by rw[lU],I0,X,V,hi,Z,o3,mE,W⟩)
 ·rintro k _ hk ⟨fr,Y,R,H,rfl,qw,X,V,hi,Z,o3,mE,W⟩
  left
  have iX:(k:Int)<U:=by omega
  have hw:=iN (k:=k) (by omega)
  have En: ∃i g,D= .isl .S (i+7) g 0 U 4:=by
   rcases Fc with⟨_,h⟩|h
   ·omega
   ·exact h
  obtain⟨i0,g0,En⟩:=En
  rcases qw (4,D,l2) (by simp[nE])with⟨mR,_⟩|⟨i,g,n,cs,wm,hv,hE,rj,hn,hB,hfz⟩
  ·simp only[En]at mR;cases mR
  simp only[En]at hv
  injection hv with _ q1 q2 _ q3 _
  have q1:i0=i:=by omega
  subst q1 q2 q3
  obtain⟨f,b,cb,r,hdr,hb,ZX,azv⟩:=hfz.at4 hn hk
  have hus:=afZ (p:=1) f b cb r hb ZX (by omega)
  have hcz:=hfz.froz
  have hz: ∀lh,fzV lh (lL F m kn R) false (.ptr .S (i0+7) g0 (k*4+1))=some (.vp (.i .i64 f.op:: .i .i64 f.num::b::r),[(.S,i0+7,⟨g0,.cells cs cs.length false⟩)]):=fun lh=>by
   rw[KW (by rw[GL];exact hE) hcz,hdr]
  have hzL: ∀lh,Cl lh (lL F m kn R) false [.ptr .S (i0+7) g0 (k*4+1),.i .i64 1]=some ([.vp (.i .i64 f.op:: .i .i64 f.num::b::r),.i .i64 1],[(.S,i0+7,⟨g0,.cells cs cs.length false⟩)]):=fun lh=>by
   rw[qV,qV,Cy,hz lh,sQ (by rfl)];rfl
  have nk: ∀x,scalar (.b x)=true:=fun _=>rfl
  unfold mz jB mL at W ⊢
  simp only[List.cons_append,List.nil_append,En]at W ⊢
  cases H with
  |true=>
   simp only[qA,seval,oO,X,V,hi,W,iX,hw]
   refine⟨_,rfl,_,_,R,true,rfl,(by rw[←En];exact qw), ?_, ?_, ?_, ?_, ?_, ?_, ?_⟩
   all_goals (simp only[qA,seval,X,V,Z,o3,mE])
  |false=>
   simp only[qA,seval,k9,oO,X,V,hi,W,iX,hw,hzL,hus,nk,apU,hk]
   refine⟨_,rfl,_,_,R,f.us 1,rfl,(by rw[←En];exact qw), ?_, ?_, ?_, ?_, ?_, ?_, ?_⟩
   all_goals (simp only[qA,seval,X,V,Z,o3,mE])
 ·rintro _ ⟨fr,Y,R,H,rfl,qw,X,V,hi,Z,o3,mE,W⟩
  simp only[qA,seval,oO,V,hi,Int.lt_irrefl]
  exact⟨_,_,uO,rfl,rfl,Z,o3,mE,R,H,rfl,qw,W⟩
theorem azy(c:Ct)(F a8 a9 iv iy iw zT aT fT I J K N D O cr:T)(m:List (List Nat×Nat))(kn:List (Nat×Int))(Xj:Bool)(R0:List b8)(l1 l2 l3 e1 e2 e3 er:RL)(I0:xD R0 (nE I J K N D O cr l1 l2 l3 e1 e2 e3 er))(U:Nat)(Fc:(D= .nilsl∧U=0)∨ ∃i g,D= .isl .S (i+7) g 0 U 3)(Cv:U≤1000)(k2 k3 uK:b8)(fr:Fr)(lh:iq b8)(sh:List b8)(lU:sh=lL F m kn R0)
  (X:an fr 8= .ptr .L 37 1 0) (V:an fr 209= .i .i64 (U:Int)) (hi:an fr 210= .i .i64 0) (Z:b7 lh 2=k2) (o3:b7 lh 3=k3) (mE:b7 lh 35=uK) (W:b7 lh 37=⟨1,.cells (mz zT aT fT c F a8 a9 iv iy iw (mL I J K N D O cr (.b Xj))) 0 true⟩):
  wS 232 oN fr lh sh (.ext 12)∧
  (b7 (n5 pE 232 oN fr lh sh) 2=k2∧b7 (n5 pE 232 oN fr lh sh) 3=k3∧b7 (n5 pE 232 oN fr lh sh) 35=uK∧ ∃(R:List b8) (H:Bool),oH pE 232 oN fr lh sh=lL F m kn R∧xD R (nE I J K N D O cr l1 l2 l3 e1 e2 e3 er)∧b7 (n5 pE 232 oN fr lh sh) 37=⟨1,.cells (mz zT aT fT c F a8 a9 iv iy iw (mL I J K N D O cr (.b H))) 0 true⟩):=by
 refine jJ (P:=fun jO iR iT=>b7 iR 2=k2∧b7 iR 3=k3∧b7 iR 35=uK∧ ∃(R:List b8) (H:Bool),iT=lL F m kn R∧xD R (nE I J K N D O cr l1 l2 l3 e1 e2 e3 er)∧b7 iR 37=⟨1,.cells (mz zT aT fT c F a8 a9 iv iy iw (mL I J K N D O cr (.b H))) 0 true⟩)
  (j6 (fun k st=> ∃(fr:Fr) (Y:iq b8) (R:List b8) (H:Bool),st=⟨fr,Y,lL F m kn R⟩∧xD R (nE I J K N D O cr l1 l2 l3 e1 e2 e3 er)∧an fr 8= .ptr .L 37 1 0∧an fr 209= .i .i64 (U:Int)∧an fr 210= .i .i64 (k:Int)∧b7 Y 2=k2∧b7 Y 3=k3∧b7 Y 35=uK∧b7 Y 37=⟨1,.cells (mz zT aT fT c F a8 a9 iv iy iw (mL I J K N D O cr (.b H))) 0 true⟩) _ U ?_ ?_ 0 _ (Nat.zero_le _) ⟨fr,lh,R0,Xj,by rw[lU],I0,X,V,hi,Z,o3,mE,W⟩)
 ·rintro k _ hk ⟨fr,Y,R,H,rfl,qw,X,V,hi,Z,o3,mE,W⟩
  left
  have iX:(k:Int)<U:=by omega
  have hw:=iN (k:=k) (by omega)
  have En: ∃i g,D= .isl .S (i+7) g 0 U 3:=by
   rcases Fc with⟨_,h⟩|h
   ·omega
   ·exact h
  obtain⟨i0,g0,En⟩:=En
  rcases qw (3,D,e2) (by simp[nE])with⟨mR,_⟩|⟨i,g,n,cs,wm,hv,hE,rj,hn,hB,hfz⟩
  ·simp only[En]at mR;cases mR
  simp only[En]at hv
  injection hv with _ q1 q2 _ q3 _
  have q1:i0=i:=by omega
  subst q1 q2 q3
  obtain⟨f,b,cb,r,hdr,hb,ZX,azv⟩:=hfz.at3 hn hk
  have hus:=afZ (p:=1) f b cb r hb ZX (by omega)
  have hcz:=hfz.froz
  have hz: ∀lh,fzV lh (lL F m kn R) false (.ptr .S (i0+7) g0 (k*3))=some (.vp (.i .i64 f.op:: .i .i64 f.num::b::r),[(.S,i0+7,⟨g0,.cells cs cs.length false⟩)]):=fun lh=>by
   rw[KW (by rw[GL];exact hE) hcz,hdr]
  have hzL: ∀lh,Cl lh (lL F m kn R) false [.ptr .S (i0+7) g0 (k*3),.i .i64 1]=some ([.vp (.i .i64 f.op:: .i .i64 f.num::b::r),.i .i64 1],[(.S,i0+7,⟨g0,.cells cs cs.length false⟩)]):=fun lh=>by
   rw[qV,qV,Cy,hz lh,sQ (by rfl)];rfl
  have nk: ∀x,scalar (.b x)=true:=fun _=>rfl
  unfold mz jB mL at W ⊢
  simp only[List.cons_append,List.nil_append,En]at W ⊢
  cases H with
  |true=>
   simp only[qA,seval,oN,X,V,hi,W,iX,hw]
   refine⟨_,rfl,_,_,R,true,rfl,(by rw[←En];exact qw), ?_, ?_, ?_, ?_, ?_, ?_, ?_⟩
   all_goals (simp only[qA,seval,X,V,Z,o3,mE])
  |false=>
   simp only[qA,seval,k9,oN,X,V,hi,W,iX,hw,hzL,hus,nk,apU,hk]
   refine⟨_,rfl,_,_,R,f.us 1,rfl,(by rw[←En];exact qw), ?_, ?_, ?_, ?_, ?_, ?_, ?_⟩
   all_goals (simp only[qA,seval,X,V,Z,o3,mE])
 ·rintro _ ⟨fr,Y,R,H,rfl,qw,X,V,hi,Z,o3,mE,W⟩
  simp only[qA,seval,oN,V,hi,Int.lt_irrefl]
  exact⟨_,_,uO,rfl,rfl,Z,o3,mE,R,H,rfl,qw,W⟩
theorem azz{fr:Fr}{lh:iq b8}{sh:List b8}{D:Option (Out×St)}(l:List Zo)(I:(l.map Zo.nm).Nodup)(a:T)(J:List T)(X:IsSl a l.length J)(hc:iA No l J)(H:l.length≤100)(K N KX Ow:b8)(Y:DC pE 232 (.loop oQ) ⟨fr,lh,sh⟩=D)
  (Z:an fr 9= .mp .L 38 1) (O:an fr 40=a) (Xk:an fr 41= .i .i64 (l.length:Int)) (U:an fr 42= .i .i64 0) (o2:b7 lh 2=K) (o3:b7 lh 3=N) (mE:b7 lh 35=KX) (j5:b7 lh 37=Ow) (KY:b7 lh 38=⟨1,.map [] [] false⟩):
  ∃(V:Fr) (F:iq b8) (W:List b8),D=some (.ext 0,⟨V,F,W⟩)∧(b7 F 2=K∧b7 F 3=N∧b7 F 35=KX∧b7 F 37=Ow∧(∃m,b7 F 38=⟨1,.map (m.map fun p=>sK p.1) (m.map fun p=>T.agg p.2) false⟩∧Np l m∧m.map Prod.fst=l.map Zo.nm)∧W=sh)∧ ∀s,(j2 (.loop oQ)).contains s=false→an V s=an fr s:=by
 obtain⟨e,r⟩:=nwz l I a J X hc H K N KX Ow fr lh sh Z O Xk U o2 o3 mE j5 KY
 exact⟨_,_,_,Y.symm.trans e,r,fun s hs=>lS e s hs⟩
theorem azA{fr:Fr}{lh:iq b8}{sh:List b8}{D:Option (Out×St)}(l:List Ap)(J:(l.map Ap.cd).Nodup)(a:T)(K:List T)(ha:IsSl a l.length K)(hc:iA ApR l K)(F:l.length≤100)(H:List Zo)(m:List (List Nat×List T))(N:Np H m∧m.map Prod.fst=H.map Zo.nm)(O: ∀u∈l,u.zn∈H.map Zo.nm)(U V W:T)(c:Ct)(X Y Z iv iy iw:T)(vs:List T)(c2 c3:b8)(hD:DC pE 232 (.loop pZ) ⟨fr,lh,sh⟩=D)
  (h8:an fr 8= .ptr .L 37 1 0) (h9:an fr 9= .mp .L 38 1) (Tp:an fr 52=a) (tZ:an fr 53= .i .i64 (l.length:Int)) (uw:an fr 54= .i .i64 0) (o2:b7 lh 2=c2) (o3:b7 lh 3=c3) (mE:b7 lh 35=⟨1,.map [] [] false⟩) (j5:b7 lh 37=⟨1,.cells (mz U V W c X Y Z iv iy iw vs) 0 true⟩) (KY:b7 lh 38=⟨1,.map (m.map fun p=>sK p.1) (m.map fun p=>T.agg p.2) false⟩):
  ∃(jO:Fr) (I:iq b8) (iT:List b8),D=some (.ext 2,⟨jO,I,iT⟩)∧(b7 I 2=c2∧b7 I 3=c3∧b7 I 37=⟨1,.cells (mz U V W c X Y Z iv iy iw vs) 0 true⟩∧(∃q,b7 I 35=⟨1,.map (q.map fun p=>sK p.1) (q.map fun p=>T.agg p.2) false⟩∧Sf H l q∧q.map Prod.fst=l.map Ap.cd)∧iT=sh)∧ ∀s,(j2 (.loop pZ)).contains s=false→an jO s=an fr s:=by
 obtain⟨e,r⟩:=nwa l J a K ha hc F H m N O U V W c X Y Z iv iy iw vs c2 c3 fr lh sh h8 h9 Tp tZ uw o2 o3 mE j5 KY
 exact⟨_,_,_,hD.symm.trans e,r,fun s hs=>lS e s hs⟩
theorem azB{fr:Fr}{lh:iq b8}{sh:List b8}{D:Option (Out×St)}(c:Ct)(F H:T)(c7 c8:List T)(i7:IsSl F c.cs.length c7)(j7:mh c.cs c7)(i8:IsSl H c.ru.length c8)(j8:iA Tq c.ru c8)(I:c.ru.length≤40)(tW: ∀u∈c.ru,Se c.cs u.sc u.x)(K N O U V W X Y:T)(Z c3 KX:b8)(Ek:List (Nat×Int))(AZ:oI c.cs Ek)(hD:DC pE 232 (.loop mN) ⟨fr,lh,sh⟩=D)(lU:sh=lL F (jt c.cs c.cs.length) Ek [])
  (h8:an fr 8= .ptr .L 37 1 0) (jH:an fr 14= .ptr .S 2 1 0) (KZ:an fr 73=H) (I1:an fr 74= .i .i64 (c.ru.length:Int)) (Ts:an fr 75= .i .i64 0) (o2:b7 lh 2=Z) (o3:b7 lh 3=c3) (mE:b7 lh 35=KX) (j5:b7 lh 37=⟨1,.cells (mz K N O c F H U V W X (mL .nilsl .nilsl .nilsl .nilsl .nilsl .nilsl .nilsl Y)) 0 true⟩):
  ∃(jO:Fr) (J:iq b8) (iT:List b8),D=some (.ext 4,⟨jO,J,iT⟩)∧(b7 J 2=Z∧b7 J 3=c3∧b7 J 35=KX∧ ∃(R:List b8) (kn:List (Nat×Int)) (r1 r2 r3:T),iT=lL F (jt c.cs c.cs.length) kn R∧oI c.cs kn∧lK R 40 (nE r1 r2 r3 .nilsl .nilsl .nilsl .nilsl (Ad c 1 c.ru.length) (Ad c 2 c.ru.length) (Ad c 3 c.ru.length) [] [] [] [])∧b7 J 37=⟨1,.cells (mz K N O c F H U V W X (mL r1 r2 r3 .nilsl .nilsl .nilsl .nilsl Y)) 0 true⟩)∧ ∀s,(j2 (.loop mN)).contains s=false→an jO s=an fr s:=by
 obtain⟨e,r⟩:=nwr c F H c7 c8 i7 j7 i8 j8 I tW K N O U V W X Y Z c3 KX Ek AZ fr lh sh lU h8 jH KZ I1 Ts o2 o3 mE j5
 exact⟨_,_,_,hD.symm.trans e,r,fun s hs=>lS e s hs⟩
theorem azC{fr:Fr}{lh:iq b8}{sh:List b8}{D:Option (Out×St)}(c:Ct)(F H:T)(c7 U:List T)(i7:IsSl F c.cs.length c7)(j7:mh c.cs c7)(i9:IsSl H c.co.length U)(j9:iA ZY c.co U)(I:c.co.length≤40)(tW: ∀u∈c.co,Se c.cs u.sc u.x)(V W X Y Z iy iw nb J K N:T)(k2 k3 uK:b8)(Ek:List (Nat×Int))(AZ:oI c.cs Ek)(R0:List b8)(l1 l2 l3:RL)(I0:lK R0 40 (nE J K N .nilsl .nilsl .nilsl .nilsl l1 l2 l3 [] [] [] []))(hD:DC pE 232 (.loop pY) ⟨fr,lh,sh⟩=D)(lU:sh=lL F (jt c.cs c.cs.length) Ek R0)
  (h8:an fr 8= .ptr .L 37 1 0) (jH:an fr 14= .ptr .S 2 1 0) (Nq:an fr 105=H) (K0:an fr 106= .i .i64 (c.co.length:Int)) (K1:an fr 107= .i .i64 0) (o2:b7 lh 2=k2) (o3:b7 lh 3=k3) (mE:b7 lh 35=uK) (j5:b7 lh 37=⟨1,.cells (mz V W X c F Y H Z iy iw (mL J K N .nilsl .nilsl .nilsl .nilsl nb)) 0 true⟩):
  ∃(jO:Fr) (O:iq b8) (iT:List b8),D=some (.ext 6,⟨jO,O,iT⟩)∧(b7 O 2=k2∧b7 O 3=k3∧b7 O 35=uK∧ ∃(R:List b8) (kn:List (Nat×Int)) (c1 c2 c3:T),iT=lL F (jt c.cs c.cs.length) kn R∧oI c.cs kn∧lK R 80 (nE J K N c1 c2 c3 .nilsl l1 l2 l3 (Ca c 1 c.co.length) (Ca c 2 c.co.length) (Ca c 3 c.co.length) [])∧b7 O 37=⟨1,.cells (mz V W X c F Y H Z iy iw (mL J K N c1 c2 c3 .nilsl nb)) 0 true⟩)∧ ∀s,(j2 (.loop pY)).contains s=false→an jO s=an fr s:=by
 obtain⟨e,r⟩:=nwc c F H c7 U i7 j7 i9 j9 I tW V W X Y Z iy iw nb J K N k2 k3 uK Ek AZ R0 l1 l2 l3 I0 fr lh sh lU h8 jH Nq K0 K1 o2 o3 mE j5
 exact⟨_,_,_,hD.symm.trans e,r,fun s hs=>lS e s hs⟩
theorem azD{fr:Fr}{lh:iq b8}{sh:List b8}{D:Option (Out×St)}(c:Ct)(F H:T)(c7 F3:List T)(i7:IsSl F c.cs.length c7)(j7:mh c.cs c7)(X:IsSl H c.cr.length F3)(Nn:ku c.cr F3)(I:c.cr.length≤40)(tW: ∀u∈c.cr,Se c.cs 1 u)(Y Z fT a8 a9 iy iw nb J K N O U V:T)(k2 k3 uK:b8)(Ek:List (Nat×Int))(AZ:oI c.cs Ek)(R0:List b8)(l1 l2 l3 q1 q2 q3:RL)(I0:lK R0 80 (nE J K N O U V .nilsl l1 l2 l3 q1 q2 q3 []))(hD:DC pE 232 (.loop oP) ⟨fr,lh,sh⟩=D)(lU:sh=lL F (jt c.cs c.cs.length) Ek R0)
  (h8:an fr 8= .ptr .L 37 1 0) (jH:an fr 14= .ptr .S 2 1 0) (HW:an fr 156=H) (FN:an fr 157= .i .i64 (c.cr.length:Int)) (KV:an fr 158= .i .i64 0) (o2:b7 lh 2=k2) (o3:b7 lh 3=k3) (mE:b7 lh 35=uK) (j5:b7 lh 37=⟨1,.cells (mz Y Z fT c F a8 a9 H iy iw (mL J K N O U V .nilsl nb)) 0 true⟩):
  ∃(jO:Fr) (W:iq b8) (iT:List b8),D=some (.ext 8,⟨jO,W,iT⟩)∧(b7 W 2=k2∧b7 W 3=k3∧b7 W 35=uK∧ ∃(R:List b8) (kn:List (Nat×Int)) (cr:T),iT=lL F (jt c.cs c.cs.length) kn R∧oI c.cs kn∧lK R 120 (nE J K N O U V cr l1 l2 l3 q1 q2 q3 (Tn c c.cr.length))∧b7 W 37=⟨1,.cells (mz Y Z fT c F a8 a9 H iy iw (mL J K N O U V cr nb)) 0 true⟩)∧ ∀s,(j2 (.loop oP)).contains s=false→an jO s=an fr s:=by
 obtain⟨e,r⟩:=nwd c F H c7 F3 i7 j7 X Nn I tW Y Z fT a8 a9 iy iw nb J K N O U V k2 k3 uK Ek AZ R0 l1 l2 l3 q1 q2 q3 I0 fr lh sh lU h8 jH HW FN KV o2 o3 mE j5
 exact⟨_,_,_,hD.symm.trans e,r,fun s hs=>lS e s hs⟩
theorem atc{fr:Fr}{lh:iq b8}{sh:List b8}{D:Option (Out×St)}(c:Ct)(H W X Y Z iw zT aT fT I F J K N O cr:T)(m:List (List Nat×Nat))(kn:List (Nat×Int))(Xj:Bool)(R0:List b8)(l1 l2 l3 e1 e2 e3 er:RL)(I0:xD R0 (nE I F J K N O cr l1 l2 l3 e1 e2 e3 er))(U:Nat)(Fc:(F= .nilsl∧U=0)∨ ∃i g,F= .isl .S (i+7) g 0 U 4)(Cv:U≤1000)(k2 k3 uK:b8)(hD:DC pE 232 (.loop oO) ⟨fr,lh,sh⟩=D)(lU:sh=lL H m kn R0)
  (h8:an fr 8= .ptr .L 37 1 0) (hl:an fr 181= .i .i64 (U:Int)) (hi:an fr 182= .i .i64 0) (o2:b7 lh 2=k2) (o3:b7 lh 3=k3) (mE:b7 lh 35=uK) (j5:b7 lh 37=⟨1,.cells (mz zT aT fT c H W X Y Z iw (mL I F J K N O cr (.b Xj))) 0 true⟩):
  ∃(jO:Fr) (V:iq b8) (iT:List b8),D=some (.ext 10,⟨jO,V,iT⟩)∧(b7 V 2=k2∧b7 V 3=k3∧b7 V 35=uK∧ ∃(R:List b8) (nb:Bool),iT=lL H m kn R∧xD R (nE I F J K N O cr l1 l2 l3 e1 e2 e3 er)∧b7 V 37=⟨1,.cells (mz zT aT fT c H W X Y Z iw (mL I F J K N O cr (.b nb))) 0 true⟩)∧ ∀s,(j2 (.loop oO)).contains s=false→an jO s=an fr s:=by
 obtain⟨e,r⟩:=azu c H W X Y Z iw zT aT fT I F J K N O cr m kn Xj R0 l1 l2 l3 e1 e2 e3 er I0 U Fc Cv k2 k3 uK fr lh sh lU h8 hl hi o2 o3 mE j5
 exact⟨_,_,_,hD.symm.trans e,r,fun s hs=>lS e s hs⟩
theorem atd{fr:Fr}{lh:iq b8}{sh:List b8}{D:Option (Out×St)}(c:Ct)(H W X Y Z iw zT aT fT I J K N F O cr:T)(m:List (List Nat×Nat))(kn:List (Nat×Int))(Xj:Bool)(R0:List b8)(l1 l2 l3 e1 e2 e3 er:RL)(I0:xD R0 (nE I J K N F O cr l1 l2 l3 e1 e2 e3 er))(U:Nat)(Fc:(F= .nilsl∧U=0)∨ ∃i g,F= .isl .S (i+7) g 0 U 3)(Cv:U≤1000)(k2 k3 uK:b8)(hD:DC pE 232 (.loop oN) ⟨fr,lh,sh⟩=D)(lU:sh=lL H m kn R0)
  (h8:an fr 8= .ptr .L 37 1 0) (hl:an fr 209= .i .i64 (U:Int)) (hi:an fr 210= .i .i64 0) (o2:b7 lh 2=k2) (o3:b7 lh 3=k3) (mE:b7 lh 35=uK) (j5:b7 lh 37=⟨1,.cells (mz zT aT fT c H W X Y Z iw (mL I J K N F O cr (.b Xj))) 0 true⟩):
  ∃(jO:Fr) (V:iq b8) (iT:List b8),D=some (.ext 12,⟨jO,V,iT⟩)∧(b7 V 2=k2∧b7 V 3=k3∧b7 V 35=uK∧ ∃(R:List b8) (nb:Bool),iT=lL H m kn R∧xD R (nE I J K N F O cr l1 l2 l3 e1 e2 e3 er)∧b7 V 37=⟨1,.cells (mz zT aT fT c H W X Y Z iw (mL I J K N F O cr (.b nb))) 0 true⟩)∧ ∀s,(j2 (.loop oN)).contains s=false→an jO s=an fr s:=by
 obtain⟨e,r⟩:=azy c H W X Y Z iw zT aT fT I J K N F O cr m kn Xj R0 l1 l2 l3 e1 e2 e3 er I0 U Fc Cv k2 k3 uK fr lh sh lU h8 hl hi o2 o3 mE j5
 exact⟨_,_,_,hD.symm.trans e,r,fun s hs=>lS e s hs⟩
theorem Xl{R:List b8}{r:List (Nat×T×RL)}{sz:Nat}{v:T}(l:RL)(h:xD R r)(D:(sz,v,l)∈r): ∃n:Nat,((v= .nilsl∧n=0)∨ ∃i g,v= .isl .S (i+7) g 0 n sz)∧n≤1000∧lenI v=some (.i .i64 (n:Int)):=by
 rcases h _ D with⟨h,_⟩|⟨i,g,n,cs,wm,h1,h2,h3,h4,h5,h6⟩
 ·simp only at h;subst h;exact⟨0,.inl ⟨rfl,rfl⟩,by omega,rfl⟩
 ·simp only at h1;subst h1;exact⟨n,.inr ⟨i,g,rfl⟩,h5,rfl⟩
theorem Xm{m:Nat}{lh:iq b8}{sh:List b8}{k g wm:Nat}{cs:List T}{bx:Bool}(h:b7 lh k=⟨g,.cells cs wm bx⟩):fzW (m+1) lh sh false (.ptr .L k g 0)=(xx m lh sh false cs).map fun q=>(.vp q.1,q.2++ [(.L,k,⟨g,.cells cs cs.length bx⟩)]):=by
 have i:(St.mk .nil lh sh).get .L k=b7 lh k:=rfl
 unfold fzW xx
 rw[fz]
 simp only[Bool.false_and,Bool.false_eq_true,if_false,Q.run,i,h,if_true,List.drop_zero]
 rw[jh]
 cases (ja (fz false (m+1)) cs).run (St.mk .nil lh sh).get sh.length <;> rfl
def I2(sz:Nat)(l:RL)(v:T):Prop:= ∃n cs,IsSl v n cs∧n*sz=cs.length∧Ac sz l cs
theorem xE{R:List b8}{D:List (Nat×T×RL)}{sz:Nat}{v:T}(l:RL)(h:xD R D)(H:(sz,v,l)∈D)(F:T)(m:List (List Nat×Nat))(kn:List (Nat×Int)): ∃r us,froz1 r=true∧(∀lh n,fzW n lh (lL F m kn R) false v=some (r,us))∧I2 sz l r:=by
 rcases h _ H with⟨h,hl⟩|⟨i,g,n,cs,wm,h1,h2,h3,h4,h5,h6⟩
 ·simp only at h hl;subst h hl;exact⟨.nilsl,[],rfl,fun lh n=>AV rfl,0,[],.inl ⟨rfl,rfl,rfl⟩,by simp,Ac.nil sz⟩
 ·simp only at h1 h4 h6;subst h1
  refine⟨.sl ((cs.drop 0).take (n*sz)) n false,[(.S,i+7,⟨g,.cells cs cs.length false⟩)],rfl,fun lh k=> ?_,n,cs,.inr ⟨false,by rw[h4];simp⟩,h4,h6⟩
  have I:(St.mk .nil lh (lL F m kn R)).get .S (i+7)=iz R i:=GL _ _ _ _ _
  simp_all[fzW,fz,Bool.false_and,Bool.false_eq_true,Q.run,Nat.zero_add,Nat.le_refl]
def H2(t:Tt)(c:Ct)(J:List T):Prop:= ∃(q:List (List Nat×List T)) (i r D F H I cr:T) (K:Bool),J= [.vm (q.map fun p=>sK p.1) (q.map fun p=>T.agg p.2),.nilsl,i,r,D,.nilsl,F,H,I,cr,.b K]∧Sf t.zo t.ap q∧q.map Prod.fst=t.ap.map Ap.cd∧
 I2 4 (Ad c 1 c.ru.length) i∧I2 4 (Ad c 2 c.ru.length) r∧I2 4 (Ad c 3 c.ru.length) D∧I2 3 (Ca c 1 c.co.length) F∧I2 3 (Ca c 2 c.co.length) H∧I2 3 (Ca c 3 c.co.length) I∧I2 3 (Tn c c.cr.length) cr
theorem ate(t:Tt)(c:Ct)(I J N F O U V W X:T)(hT:sZ t I J N)(hC:tp c F O U V W X)(hS:A1 c)(ht:uD t=0)(hc:mK c=0)(hnz:(t.zo.map Zo.nm).Nodup)(hlz:t.zo.length≤100)(hna:(t.ap.map Ap.cd).Nodup)(hla:t.ap.length≤100)(hzn: ∀u∈t.ap,u.zn∈t.zo.map Zo.nm)
  (hru: ∀u∈c.ru,Se c.cs u.sc u.x) (lru:c.ru.length≤40) (uB: ∀u∈c.co,Se c.cs u.sc u.x) (lco:c.co.length≤40) (Rp: ∀u∈c.cr,Se c.cs 1 u) (lcr:c.cr.length≤40) (lcs:c.cs.length≤32):
  ∃s vs,be pE 23 [.agg [I,J,N],.agg (jB c F O U V W X)] []=some (.tup [.vp (I::J::N::(jB c F O U V W X++vs)),.i .i64 0],s)∧vs.all froz1=true∧vs.length=11∧H2 t c vs:=by
 have ZP:=Nr t I J N hT
 obtain⟨s1,hpc⟩:=Pn c F O U V W X hC hS
 rw[ht]at ZP
 rw[hc]at hpc
 obtain⟨⟨zc,z1,z2⟩,⟨ac,b1,b2⟩,⟨fc,f1,f2⟩⟩:=hT
 obtain⟨⟨c7,i7,j7⟩,⟨c8,i8,j8⟩,⟨c9,i9,j9⟩,⟨F3,i10,Nn⟩,⟨Tu,i11,Po⟩,⟨Mf,i12,Tv⟩⟩:=hC
 have hfT:=f1.froz1
 have hnc:=ajf c.cs F c7 i7 j7 (by unfold qK;omega)
 rw[show H3 F (jt c.cs c.cs.length) [] 4=lL F (jt c.cs c.cs.length) [] []by unfold lL;rw[List.append_nil]]at hnc
 have hk7:kept F=true:=by rcases i7 with⟨rfl,_,_⟩|⟨ex,rfl⟩ <;> rfl
 rw[il aaj (by simp[c23])]
 unfold jB at hpc ⊢
 simp only[qA,seval,c23,ZP,hpc,ahh,apP,z1.froz1,b1.froz1,f1.froz1,i7.froz1,i8.froz1,i9.froz1,i10.froz1,i11.froz1,i12.froz1,z1.lenI]
 generalize K:DC pE 232 (.loop oQ) _=D
 obtain⟨f1,l1,s2,rfl,⟨o2,Y,mE,Z,⟨m,KY,hm⟩,rfl⟩,H⟩:=azz t.zo hnz I zc z1 z2 hlz ⟨1,.cells [I,J,N] 0 true⟩ ⟨1,.cells [.i .i64 c.rp,.i .i64 c.rl,.i .i64 c.cn,.i .i64 c.st,.i .i64 c.ly,.i .i64 c.nf,.i .i64 c.nt,F,O,U,V,W,X,.i .i64 c.gu] 0 true⟩ ⟨1,.map [] [] false⟩ ⟨1,.cells (mz I J N c F O U V W X (mL .nilsl .nilsl .nilsl .nilsl .nilsl .nilsl .nilsl (.b false))) 0 true⟩ K (by simp only[qA,seval]) (by simp only[qA,seval]) (by simp only[qA,seval]) (by simp only[qA,seval]) (by simp only[qA,seval]) (by simp only[qA,seval]) (by simp only[qA,seval]) (by unfold mz jB mL;simp only[List.cons_append,List.nil_append];simp only[qA,seval]) (by simp only[qA,seval])
 have atg:an f1 2= .ptr .L 2 1 0:=by rw[H 2 (by decide)];simp only[qA,seval]
 have azG:an f1 3= .ptr .L 3 1 0:=by rw[H 3 (by decide)];simp only[qA,seval]
 have ath:an f1 8= .ptr .L 37 1 0:=by rw[H 8 (by decide)];simp only[qA,seval]
 have azH:an f1 9= .mp .L 38 1:=by rw[H 9 (by decide)];simp only[qA,seval]
 clear H
 simp only[qA,seval,atg,o2,b1.lenI]
 have r:=Z
 unfold mz jB mL at r
 simp only[List.cons_append,List.nil_append]at r
 clear K
 generalize K:DC pE 232 (.loop pZ) _=D
 obtain⟨f2,l1,s2,rfl,⟨o2,Y,Z,⟨q,mE,hq⟩,rfl⟩,H⟩:=azA t.ap hna J ac b1 b2 hla t.zo m hm hzn I J N c F O U V W X (mL .nilsl .nilsl .nilsl .nilsl .nilsl .nilsl .nilsl (.b false)) ⟨1,.cells [I,J,N] 0 true⟩ ⟨1,.cells [.i .i64 c.rp,.i .i64 c.rl,.i .i64 c.cn,.i .i64 c.st,.i .i64 c.ly,.i .i64 c.nf,.i .i64 c.nt,F,O,U,V,W,X,.i .i64 c.gu] 0 true⟩ K (by simp only[qA,seval,ath]) (by simp only[qA,seval,azH]) (by simp only[qA,seval]) (by simp only[qA,seval]) (by simp only[qA,seval]) (by simp only[o2]) (by simp only[Y]) (by simp only[mE]) (by unfold mz jB mL;simp only[List.cons_append,List.nil_append];simp only[r]) (by simp only[KY])
 have aFW:an f2 2= .ptr .L 2 1 0:=by rw[H 2 (by decide)];simp(maxDischargeDepth:=6) only[qA,seval,atg]
 have ati:an f2 3= .ptr .L 3 1 0:=by rw[H 3 (by decide)];simp only[qA,seval,azG]
 have atj:an f2 8= .ptr .L 37 1 0:=by rw[H 8 (by decide)];simp only[qA,seval,ath]
 clear H r
 simp only[qA,seval,ati,Y,hk7,hnc,axR,i8.lenI]
 have AZ:oI c.cs []:=fun i v h=>by simp[iJ]at h
 have r:=Z
 unfold mz jB mL at r
 simp only[List.cons_append,List.nil_append]at r
 clear K
 generalize K:DC pE 232 (.loop mN) _=D
 obtain⟨f3,l1,s2,rfl,⟨o2,Y,mE,R,kn,r1,r2,r3,rfl,qn,qw,Z⟩,H⟩:=azB c F O c7 c8 i7 j7 i8 j8 lru hru I J N U V W X (.b false) ⟨1,.cells [I,J,N] 0 true⟩ ⟨1,.cells [.i .i64 c.rp,.i .i64 c.rl,.i .i64 c.cn,.i .i64 c.st,.i .i64 c.ly,.i .i64 c.nf,.i .i64 c.nt,F,O,U,V,W,X,.i .i64 c.gu] 0 true⟩ ⟨1,.map (q.map fun p=>sK p.1) (q.map fun p=>T.agg p.2) false⟩ [] AZ K rfl (by simp only[qA,seval,atj]) (by simp only[qA,seval]) (by simp only[qA,seval]) (by simp only[qA,seval]) (by simp only[qA,seval]) (by simp only[o2]) (by simp only[Y]) (by simp only[mE]) (by unfold mz jB mL;simp only[List.cons_append,List.nil_append];simp only[r])
 have atk:an f3 3= .ptr .L 3 1 0:=by rw[H 3 (by decide)];simp only[qA,seval,ati]
 have atl:an f3 8= .ptr .L 37 1 0:=by rw[H 8 (by decide)];simp only[qA,seval,atj]
 have af1:an f3 14= .ptr .S 2 1 0:=by rw[H 14 (by decide)];simp only[qA,seval]
 clear H r
 simp only[qA,seval,atk,Y,i9.lenI]
 have r:=Z
 unfold mz jB mL at r
 simp only[List.cons_append,List.nil_append]at r
 clear K
 generalize K:DC pE 232 (.loop pY) _=D
 obtain⟨f4,l1,s2,rfl,⟨o2,Y,mE,R1,K2,c1,c2,c3,rfl,qn,qw,Z⟩,H⟩:=azC c F U c7 c9 i7 j7 i9 j9 lco uB I J N O V W X (.b false) r1 r2 r3 ⟨1,.cells [I,J,N] 0 true⟩ ⟨1,.cells [.i .i64 c.rp,.i .i64 c.rl,.i .i64 c.cn,.i .i64 c.st,.i .i64 c.ly,.i .i64 c.nf,.i .i64 c.nt,F,O,U,V,W,X,.i .i64 c.gu] 0 true⟩ ⟨1,.map (q.map fun p=>sK p.1) (q.map fun p=>T.agg p.2) false⟩ kn qn R _ _ _ qw K rfl (by simp only[qA,seval,atl]) (by simp only[qA,seval,af1]) (by simp only[qA,seval]) (by simp only[qA,seval]) (by simp only[qA,seval]) (by simp only[o2]) (by simp only[Y]) (by simp only[mE]) (by unfold mz jB mL;simp only[List.cons_append,List.nil_append];simp only[r])
 have azI:an f4 3= .ptr .L 3 1 0:=by rw[H 3 (by decide)];simp only[qA,seval,atk]
 have atm:an f4 8= .ptr .L 37 1 0:=by rw[H 8 (by decide)];simp only[qA,seval,atl]
 have atn:an f4 14= .ptr .S 2 1 0:=by rw[H 14 (by decide)];simp only[qA,seval,af1]
 clear H r
 simp only[qA,seval,azI,Y,i10.lenI]
 have r:=Z
 unfold mz jB mL at r
 simp only[List.cons_append,List.nil_append]at r
 clear K
 generalize K:DC pE 232 (.loop oP) _=D
 obtain⟨f5,l1,s2,rfl,⟨o2,Y,mE,R2,Pp,cr,rfl,qn,qw,Z⟩,H⟩:=azD c F V c7 F3 i7 j7 i10 Nn lcr Rp I J N O U W X (.b false) r1 r2 r3 c1 c2 c3 ⟨1,.cells [I,J,N] 0 true⟩ ⟨1,.cells [.i .i64 c.rp,.i .i64 c.rl,.i .i64 c.cn,.i .i64 c.st,.i .i64 c.ly,.i .i64 c.nf,.i .i64 c.nt,F,O,U,V,W,X,.i .i64 c.gu] 0 true⟩ ⟨1,.map (q.map fun p=>sK p.1) (q.map fun p=>T.agg p.2) false⟩ K2 qn R1 _ _ _ _ _ _ qw K rfl (by simp only[qA,seval,atm]) (by simp only[qA,seval,atn]) (by simp only[qA,seval]) (by simp only[qA,seval]) (by simp only[qA,seval]) (by simp only[o2]) (by simp only[Y]) (by simp only[mE]) (by unfold mz jB mL;simp only[List.cons_append,List.nil_append];simp only[r])
 have ajg:an f5 8= .ptr .L 37 1 0:=by rw[H 8 (by decide)];simp only[qA,seval,atm]
 clear H r
 have IZ:=qw.toW (by omega)
 obtain⟨n2,Fc,azJ,Cm⟩:=Xl (sz:=4) (v:=r2) (Ad c 2 c.ru.length) IZ (by simp[nE])
 obtain⟨n1,Cv,azK,DE⟩:=Xl (sz:=3) (v:=c2) (Ca c 2 c.co.length) IZ (by simp[nE])
 have r:=Z
 unfold mz jB mL at r
 simp only[List.cons_append,List.nil_append]at r
 simp only[qA,seval,k9,ajg,r,Cm]
 have r:=Z
 unfold mz jB mL at r
 simp only[List.cons_append,List.nil_append]at r
 clear K
 generalize K:DC pE 232 (.loop oO) _=D
 obtain⟨f6,l1,s2,rfl,⟨o2,Y,mE,R3,nb,rfl,hw3,Z⟩,H⟩:=atc c F O U V W X I J N r1 r2 r3 c1 c2 c3 cr _ Pp false R2 _ _ _ _ _ _ _ IZ n2 Fc azJ ⟨1,.cells [I,J,N] 0 true⟩ ⟨1,.cells [.i .i64 c.rp,.i .i64 c.rl,.i .i64 c.cn,.i .i64 c.st,.i .i64 c.ly,.i .i64 c.nf,.i .i64 c.nt,F,O,U,V,W,X,.i .i64 c.gu] 0 true⟩ ⟨1,.map (q.map fun p=>sK p.1) (q.map fun p=>T.agg p.2) false⟩ K rfl (by simp only[qA,seval,ajg]) (by simp only[qA,seval]) (by simp only[qA,seval]) (by simp only[o2]) (by simp only[Y]) (by simp only[mE]) (by unfold mz jB mL;simp only[List.cons_append,List.nil_append];simp only[r])
 have ajh:an f6 8= .ptr .L 37 1 0:=by rw[H 8 (by decide)];simp only[qA,seval,ajg]
 clear H r
 have r:=Z
 unfold mz jB mL at r
 simp only[List.cons_append,List.nil_append]at r
 simp only[qA,seval,k9,ajh,r,DE]
 have r:=Z
 unfold mz jB mL at r
 simp only[List.cons_append,List.nil_append]at r
 clear K
 generalize K:DC pE 232 (.loop oN) _=D
 obtain⟨f7,l1,s2,rfl,⟨o2,Y,mE,R4,nb1,rfl,ZV,Z⟩,H⟩:=atd c F O U V W X I J N r1 r2 r3 c1 c2 c3 cr _ Pp nb R3 _ _ _ _ _ _ _ hw3 n1 Cv azK ⟨1,.cells [I,J,N] 0 true⟩ ⟨1,.cells [.i .i64 c.rp,.i .i64 c.rl,.i .i64 c.cn,.i .i64 c.st,.i .i64 c.ly,.i .i64 c.nf,.i .i64 c.nt,F,O,U,V,W,X,.i .i64 c.gu] 0 true⟩ ⟨1,.map (q.map fun p=>sK p.1) (q.map fun p=>T.agg p.2) false⟩ K rfl (by simp only[qA,seval,ajh]) (by simp only[qA,seval]) (by simp only[qA,seval]) (by simp only[o2]) (by simp only[Y]) (by simp only[mE]) (by unfold mz jB mL;simp only[List.cons_append,List.nil_append];simp only[r])
 have azL:an f7 8= .ptr .L 37 1 0:=by rw[H 8 (by decide)];simp only[qA,seval,ajh]
 clear H r
 have r:=Z
 unfold mz jB mL at r
 simp only[List.cons_append,List.nil_append]at r
 simp only[qA,seval,azL]
 obtain⟨x0,u0,y0,w0,z0⟩:=xE (sz:=4) (v:=r1) (Ad c 1 c.ru.length) ZV (by simp[nE]) F (jt c.cs c.cs.length) Pp
 obtain⟨x1,u1,y1,w1,z1'⟩:=xE (sz:=4) (v:=r2) (Ad c 2 c.ru.length) ZV (by simp[nE]) F (jt c.cs c.cs.length) Pp
 obtain⟨x2,u2,y2,w2,z2'⟩:=xE (sz:=4) (v:=r3) (Ad c 3 c.ru.length) ZV (by simp[nE]) F (jt c.cs c.cs.length) Pp
 obtain⟨x3,u3,y3,w3,z3⟩:=xE (sz:=3) (v:=c1) (Ca c 1 c.co.length) ZV (by simp[nE]) F (jt c.cs c.cs.length) Pp
 obtain⟨x4,u4,y4,w4,z4⟩:=xE (sz:=3) (v:=c2) (Ca c 2 c.co.length) ZV (by simp[nE]) F (jt c.cs c.cs.length) Pp
 obtain⟨x5,u5,y5,w5,z5⟩:=xE (sz:=3) (v:=c3) (Ca c 3 c.co.length) ZV (by simp[nE]) F (jt c.cs c.cs.length) Pp
 obtain⟨x6,u6,y6,w6,z6⟩:=xE (sz:=3) (v:=cr) (Tn c c.cr.length) ZV (by simp[nE]) F (jt c.cs c.cs.length) Pp
 rw[Xm r]
 simp only[qA,seval,mE,mpV,z1.froz1,b1.froz1,hfT,i7.froz1,i8.froz1,i9.froz1,i10.froz1,i11.froz1,i12.froz1,w0,w1,w2,w3,w4,w5,w6]
 refine⟨_,_,rfl, ?_, ?_,q,x0,x1,x2,x3,x4,x5,x6,nb1, ?_,hq.1,hq.2,z0,z1',z2',z3,z4,z5,z6⟩
 ·simp only[List.all_cons,List.all_nil,y0,y1,y2,y3,y4,y5,y6,Bool.and_true,Bool.true_and];rfl
 ·rfl
 ·rfl
theorem acJ(t:Tt)(c:Ct)(r D F H I J K N O:T)(U:sZ t r D F)(V:tp c H I J K N O)(W:uD t≠0):
  ∃s,be pE 23 [.agg [r,D,F],.agg (jB c H I J K N O)] []=some (.tup [.nilptr,.i .i64 (uD t)],s):=by
 have ZP:=Nr t r D F U
 obtain⟨⟨zc,X,z2⟩,⟨ac,Y,b2⟩,⟨fc,Z,f2⟩⟩:=U
 obtain⟨⟨c7,i7,j7⟩,⟨c8,i8,j8⟩,⟨c9,i9,j9⟩,⟨F3,i10,Nn⟩,⟨Tu,i11,Po⟩,⟨Mf,i12,Tv⟩⟩:=V
 rw[il aaj (by simp[c23])]
 unfold jB
 simp only[qA,seval,c23,ZP,W,ahh,X.froz1,Y.froz1,Z.froz1]
 exact⟨_,rfl⟩
theorem nzo: ∀(l:List Zo) (seen:List (List Nat)),Sg seen l=0→(l.map Zo.nm).Nodup∧ ∀z∈l,z.nm∉seen
 | [],seen,_=>⟨List.nodup_nil,fun z i=>by cases i⟩
 |z::r,seen,h=>by
  rw[Sg]at h
  by_cases D:oK z=0
  ·rw[if_neg (by simp[D])]at h
   by_cases F:z.nm∈seen
   ·grind
   ·rw[if_neg F]at h
    obtain⟨H,I⟩:=nzo r _ h
    grind
  ·grind
theorem nap(i:List (List Nat)): ∀(l:List Ap) (seen:List (List Nat)),Sh i seen l=0→(l.map Ap.cd).Nodup∧ ∀z∈l,z.cd∉seen
 | [],seen,_=>⟨List.nodup_nil,fun z I=>by cases I⟩
 |z::r,seen,h=>by
  rw[Sh]at h
  by_cases J:Xn z.cd=false
  ·grind
  ·rw[if_neg J]at h
   by_cases D:z.cd∈seen
   ·grind
   ·rw[if_neg D]at h
    by_cases F:z.zn∉i
    ·rw[if_pos F]at h;cases h
    ·rw[if_neg F]at h
     obtain⟨K,H⟩:=nap i r _ h
     refine⟨?_,fun y hy=> ?_⟩
     ·rw[List.map_cons,List.nodup_cons]
      refine⟨fun N=> ?_,K⟩
      obtain⟨y,hy,e⟩:=List.mem_map.1 N
      exact H y hy (by rw[e];simp)
     ·rcases List.mem_cons.1 hy with rfl|hy
      ·exact D
      ·exact fun hs=>H y hy (by simp[hs])
theorem nzn(i:List (List Nat)): ∀(l:List Ap) (seen:List (List Nat)),Sh i seen l=0→ ∀u∈l,u.zn∈i
 | [],seen,_,u,hu=>by cases hu
 |z::r,seen,h,u,hu=>by
  rw[Sh]at h
  by_cases F:Xn z.cd=false
  ·grind
  ·rw[if_neg F]at h
   by_cases H:z.cd∈seen
   ·grind
   ·rw[if_neg H]at h
    by_cases D:z.zn∉i
    ·rw[if_pos D]at h;cases h
    ·rw[if_neg D]at h
     rcases List.mem_cons.1 hu with rfl|hu
     ·simpa using D
     ·exact nzn i r _ h u hu
theorem nzs: ∀(l:List Zo) (seen:List (List Nat)),Sg seen l=0→ ∀z∈l,oK z=0
 | [],seen,_,u,hu=>by cases hu
 |z::r,seen,h,u,hu=>by
  rw[Sg]at h
  by_cases i:oK z=0
  ·rw[if_neg (by simp[i])]at h
   by_cases D:z.nm∈seen
   ·grind
   ·rw[if_neg D]at h
    rcases List.mem_cons.1 hu with rfl|hu
    ·exact i
    ·exact nzs r _ h u hu
  ·grind
theorem nfl(i:List (List Nat)): ∀(l:List Fl) (p:Option Fl),I3 i p l=0→ ∀f∈l,K3 i f=0
 | [],p,_,u,hu=>by cases hu
 |z::r,p,h,u,hu=>by
  unfold I3 at h
  by_cases F:K3 i z=0
  ·rw[if_neg (by simp[F])]at h
   have D:I3 i (some z) r=0:=by
    grind
   rcases List.mem_cons.1 hu with rfl|hu
   ·exact F
   ·exact nfl i r _ D u hu
  ·grind
theorem CF(t:Tt)(h:uD t=0):(∀z∈t.zo,oK z=0)∧(∀u∈t.ap,u.zn∈t.zo.map Zo.nm)∧(∀f∈t.fl,K3 (t.ap.map Ap.cd) f=0)∧t.fl.length≤200:=by
 unfold uD at h
 split at h
 ·cases h
 split at h
 ·cases h
 split at h
 ·cases h
 split at h
 ·grind
 split at h
 ·rename_i q;exact absurd h q
 rename_i a b c d e
 exact⟨nzs t.zo [] (by omega),nzn (t.zo.map Zo.nm) t.ap [] (by omega),nfl _ t.fl none h,by omega⟩
theorem Xo(t:Tt)(h:uD t=0):(t.zo.map Zo.nm).Nodup∧t.zo.length≤100∧(t.ap.map Ap.cd).Nodup∧t.ap.length≤100:=by
 unfold uD at h
 split at h
 ·cases h
 split at h
 ·cases h
 split at h
 ·cases h
 split at h
 ·grind
 split at h
 ·rename_i q;exact absurd h q
 rename_i a b c d e
 exact⟨(nzo t.zo [] (by omega)).1,by omega,(nap (t.zo.map Zo.nm) t.ap [] (by omega)).1,by omega⟩
theorem Xp: ∀(l:List Ru) (seen:List (Int×List Nat)),I4 seen l=0→ ∀u∈l,rk u.sc 1 3=true∧jy u.x=0
 | [],seen,_,u,hu=>by cases hu
 |v::l,seen,h,u,hu=>by
  rw[I4]at h
  split at h
  ·cases h
  split at h
  ·cases h
  split at h
  ·grind
  rename_i a b c
  rcases List.mem_cons.1 hu with rfl|hu
  ·exact⟨by cases i:rk u.sc 1 3 with|true=>rfl|false=>exact absurd (.inl i) a,by omega⟩
  ·exact Xp l _ h u hu
theorem Xq: ∀(l:List Co),K4 l=0→ ∀u∈l,rk u.sc 1 3=true∧jy u.x=0
 | [],_,u,hu=>by cases hu
 |v::l,h,u,hu=>by
  rw[K4]at h
  split at h
  ·cases h
  split at h
  ·grind
  rename_i a c
  rcases List.mem_cons.1 hu with rfl|hu
  ·grind
  ·exact Xq l h u hu
theorem Xr: ∀(l:List Ex),K5 l=0→ ∀u∈l,jy u=0
 | [],_,u,hu=>by cases hu
 |v::l,h,u,hu=>by
  rw[K5]at h
  split at h
  ·grind
  rename_i c
  rcases List.mem_cons.1 hu with rfl|hu
  ·omega
  ·exact Xr l h u hu
theorem Xs{n:Int}(h:rk n 1 3=true):n=1∨n=2∨n=3:=by
 unfold rk at h
 simp only[Bool.and_eq_true,decide_eq_true_eq]at h
 omega
theorem Ns{l:Cs}{i:Int}{x:Ex}{w:Int}(D:jy x=0)(h:Mi l i x w=0): ∃k,x.ty (clk l (pQ l l.length)) i=(k,0):=by
 have r:(BO l i x).2=0:=by
  unfold Mi at h
  split at h
  ·cases h
  ·exact h
 unfold BO at r
 rw[if_neg (by simp[D])]at r
 exact⟨(x.ty (clk l (pQ l l.length)) i).1,Prod.ext rfl r⟩
theorem Xt(cs:Cs): ∀(l:List Ru),Tw cs l=0→ ∀u∈l,Mi cs u.sc u.x 4=0
 | [],_,u,hu=>by cases hu
 |v::l,h,u,hu=>by
  rw[Tw]at h
  split at h
  ·rename_i q;exact absurd h q
  rename_i c
  rcases List.mem_cons.1 hu with rfl|hu
  ·omega
  ·exact Xt cs l h u hu
theorem Xu(cs:Cs): ∀(l:List Co),Tx cs l=0→ ∀u∈l,Mi cs u.sc u.x 1=0
 | [],_,u,hu=>by cases hu
 |v::l,h,u,hu=>by
  rw[Tx]at h
  split at h
  ·rename_i q;exact absurd h q
  rename_i c
  rcases List.mem_cons.1 hu with rfl|hu
  ·omega
  ·exact Xu cs l h u hu
theorem Xv(cs:Cs): ∀(l:List Ex),Xw cs l=0→ ∀u∈l,Mi cs 1 u 2=0
 | [],_,u,hu=>by cases hu
 |v::l,h,u,hu=>by
  rw[Xw]at h
  split at h
  ·rename_i q;exact absurd h q
  rename_i c
  rcases List.mem_cons.1 hu with rfl|hu
  ·omega
  ·exact Xv cs l h u hu
theorem Pq(c:Ct)(h:mK c=0):(∀u∈c.ru,Se c.cs u.sc u.x)∧c.ru.length≤40∧(∀u∈c.co,Se c.cs u.sc u.x)∧c.co.length≤40∧(∀u∈c.cr,Se c.cs 1 u)∧c.cr.length≤40∧c.cs.length≤32:=by
 unfold mK at h
 split at h
 ·rename_i q;exact absurd h q
 split at h
 ·rename_i q;exact absurd h q
 split at h
 ·rename_i q;exact absurd h q
 split at h
 ·rename_i q;exact absurd h q
 rename_i g _ r o
 have g:m5 c=0:=by omega
 unfold m5 at g
 split at g
 ·cases g
 split at g
 ·cases g
 split at g
 ·rename_i q;exact absurd g q
 split at g
 ·rename_i q;exact absurd g q
 split at g
 ·rename_i q;exact absurd g q
 split at g
 ·rename_i q;exact absurd g q
 rename_i _ sz _ D F H
 have sz:qo c=true:=by simpa using sz
 unfold qo at sz
 simp only[Bool.and_eq_true,decide_eq_true_eq]at sz
 refine⟨fun u i=> ?_,sz.2.1,fun u i=> ?_,by omega,fun u i=> ?_,by omega,sz.1⟩
 ·obtain⟨w,v⟩:=Xp c.ru [] (by omega) u i
  exact⟨Xs w,v,Ns v (Xt c.cs c.ru (by omega) u i)⟩
 ·obtain⟨w,v⟩:=Xq c.co (by omega) u i
  exact⟨Xs w,v,Ns v (Xu c.cs c.co (by omega) u i)⟩
 ·have v:=Xr c.cr (by omega) u i
  exact⟨.inl rfl,v,Ns v (Xv c.cs c.cr h u i)⟩
theorem aji(t:Tt)(c:Ct)(r D F H I J K N O:T)(W:sZ t r D F)(X:tp c H I J K N O)(Y:A1 c)(V:uD t=0)(hc:mK c=0):
  ∃s U,be pE 23 [.agg [r,D,F],.agg (jB c H I J K N O)] []=some (.tup [.vp (r::D::F::(jB c H I J K N O++U)),.i .i64 0],s)∧U.all froz1=true∧U.length=11∧H2 t c U:=by
 obtain⟨Z,p2,p3,p4⟩:=Xo t V
 obtain⟨q1,q2,q3,q4,q5,q6,q7⟩:=Pq c hc
 exact ate t c r D F H I J K N O W X Y V hc Z p2 p3 p4 (CF t V).2.1 q1 q2 q3 q4 q5 q6 q7
end Go.Proofs.YtcpceiclnbmgiaaGreat
