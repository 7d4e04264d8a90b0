/- Walks of functions of the program and of the reference, and their plain laws, part 10. Conditions: the theorems' own. -/
import Derived.Test.YtcpceiclnbmgiaaGreatM9
import Derived.KernelRfl
set_option maxRecDepth 100000
set_option linter.unusedSimpArgs false
set_option linter.unusedVariables false
set_option maxHeartbeats 16000000
namespace Go.Proofs.YtcpceiclnbmgiaaGreat
open Go Go.Ev
def abN:T→Bool
 | .ptr .S .. =>true
 |_=>false
theorem pq{k g off:Nat}:abN (.ptr .S k g off)=true:=nr rfl
def Mq:T→FP
 | .ptr .S k _ _=>⟨false,[(.S,k)],[(.S,k)]⟩
 |_=>nz
section
variable{E:Env}{call:pw}{n:Nat}{fr:Fr}{lh:gW b8}{sh:List b8}{ds:List (List Nat×dy)}{jl:List FP}{u:List Nat}
theorem Bf{x v:im}{m:Nat}(hx:abN (rd fr x)=true)(I:froz (rd fr v)=true):iw E call n ((u,⟨none,.st x v m,none⟩)::ds) jl ⟨fr,lh,sh⟩=
  if meets u jl (Mq (rd fr x))=true then ke E call n ds (jl++ [Mq (rd fr x)]) (dE E call n [⟨none,.st x v m,none⟩] ⟨fr,lh,sh⟩)else none:=by
 refine sk fun F=> ?_
 cases Ew:rd fr x with
 |ptr sp k g off=>
  cases sp with
  |L=>rw[Ew]at hx;simp[abN]at hx
  |S=>
   by_cases H:(decide ((cellsOf (rd fr v)).length≠m)|| !noTup (rd fr v))=true
   ·obtain⟨w,D,hr,i⟩:=tU (q:= .fail) (by rfl) (by rw[ko];simp only[iX,ry,Ew];rw[if_pos H]) F
    simp[Q.run]at hr
   ·obtain⟨w,D,hr,i⟩:=tU (q:= .rd .S k (JX k g off m (rd fr v))) (by rfl) (by rw[ko];simp only[iX,ry,Ew];rw[if_neg H];rfl) F
    simp only[Q.run,Q.log,Q.asks]at hr i
    generalize J:(St.mk fr lh sh).get .S k=e at hr i
    obtain⟨K,ob⟩:=e
    unfold JX at hr i
    by_cases r:K=g
    ·cases ob with
     |none=>simp[r,Q.run]at hr
     |map ks O z=>simp[r,Q.run]at hr
     |cells cs wm bx=>
      simp only[r,if_true]at hr i
      split at hr
      ·rename_i hc
       rw[if_pos hc]at i
       have hs:(bx&&(Sp.S==Sp.L))=false:=by cases bx <;> rfl
       rw[hs]at hr i
       simp only[Bool.false_eq_true,if_false]at hr i
       unfold iq at hr i
       rw[oX I]at hr i
       simp only[Q.bind]at hr i
       split at hr
       ·simp[Q.run]at hr
       ·rename_i N
        rw[if_neg N]at i
        simp[Q.run]at hr
        obtain⟨rfl,rfl⟩:=hr
        rw[i (by simp[inB,AP,J])]
        rfl
      ·simp[Q.run]at hr
    ·simp only[r,if_false,Q.run]at hr
     cases hr
 |_=>rw[Ew]at hx;simp[abN]at hx
theorem kU{k g off:Nat}:Mq (.ptr .S k g off)=⟨false,[(.S,k)],[(.S,k)]⟩:=nr rfl
end
theorem nwd(c:Ct)(r O:T)(c7 Fg:List T)(i7:IsSl r c.cs.length c7)(j7:lS c.cs c7)(i10:IsSl O c.cr.length Fg)(Oy:j3 c.cr Fg)(hlen:c.cr.length≤40)(tV: ∀u∈c.cr,Rj c.cs 1 u)(zT aT fT a8 a9 hU gZ nb D F H I J c3:T)(k2 k3 ub:b8)(DG:List (Nat×Int))(Al:od c.cs DG)(R0:List b8)(l1 l2 l3 q1 q2 q3:RL)(Ie:ll R0 80 (m7 D F H I J c3 .nilsl l1 l2 l3 q1 q2 q3 []))(fr:Fr)(lh:gW b8)(sh:List b8)(lC:sh=ln r (je c.cs c.cs.length) DG R0)
  (U:an fr 8= .ptr .L 37 1 0) (V:an fr 14= .ptr .S 2 1 0) (Hk:an fr 156=O) (EZ:an fr 157= .i .i64 (c.cr.length:Int)) (Kd:an fr 158= .i .i64 0) (X:b7 lh 2=k2) (Y:b7 lh 3=k3) (Z:b7 lh 35=ub) (K:b7 lh 37=⟨1,.cells (l7 zT aT fT c r a8 a9 O hU gZ (ml D F H I J c3 .nilsl nb)) 0 true⟩):
  wJ 232 ow fr lh sh (.ext 8)∧
  (b7 (nE pE 232 ow fr lh sh) 2=k2∧b7 (nE pE 232 ow fr lh sh) 3=k3∧b7 (nE pE 232 ow fr lh sh) 35=ub∧ ∃(R:List b8) (kn:List (Nat×Int)) (cr:T),oi pE 232 ow fr lh sh=ln r (je c.cs c.cs.length) kn R∧od c.cs kn∧ll R 120 (m7 D F H I J c3 cr l1 l2 l3 q1 q2 q3 (Sr c c.cr.length))∧b7 (nE pE 232 ow fr lh sh) 37=⟨1,.cells (l7 zT aT fT c r a8 a9 O hU gZ (ml D F H I J c3 cr nb)) 0 true⟩):=by
 refine jv (P:=fun jA iI iE=>b7 iI 2=k2∧b7 iI 3=k3∧b7 iI 35=ub∧ ∃(R:List b8) (kn:List (Nat×Int)) (cr:T),iE=ln r (je c.cs c.cs.length) kn R∧od c.cs kn∧ll R 120 (m7 D F H I J c3 cr l1 l2 l3 q1 q2 q3 (Sr c c.cr.length))∧b7 iI 37=⟨1,.cells (l7 zT aT fT c r a8 a9 O hU gZ (ml D F H I J c3 cr nb)) 0 true⟩)
  (jR (fun k st=> ∃(fr:Fr) (W:gW b8) (R:List b8) (kn:List (Nat×Int)) (cr:T),st=⟨fr,W,ln r (je c.cs c.cs.length) kn R⟩∧od c.cs kn∧ll R (80+k) (m7 D F H I J c3 cr l1 l2 l3 q1 q2 q3 (Sr c k))∧an fr 8= .ptr .L 37 1 0∧an fr 14= .ptr .S 2 1 0∧an fr 156=O∧an fr 157= .i .i64 (c.cr.length:Int)∧an fr 158= .i .i64 (k:Int)∧b7 W 2=k2∧b7 W 3=k3∧b7 W 35=ub∧b7 W 37=⟨1,.cells (l7 zT aT fT c r a8 a9 O hU gZ (ml D F H I J c3 cr nb)) 0 true⟩) _ c.cr.length ?_ ?_ 0 _ (Nat.zero_le _) ⟨fr,lh,R0,DG,.nilsl,by rw[lC],Al,Ie,U,V,Hk,EZ,Kd,X,Y,Z,K⟩)
 ·rintro k _ hk ⟨fr,W,R,kn,cr,rfl,pR,pZ,U,V,Hk,EZ,Kd,X,Y,Z,K⟩
  left
  have iP:(k:Int)<c.cr.length:=by omega
  have hw:=iJ (k:=k) (by omega)
  obtain⟨b,cb,rr,iU,mP,sL,hb⟩:=rF i10 Oy k hk
  obtain⟨mF,N,t,zh⟩:=tV c.cr[k] (List.getElem_mem hk)
  have DH:=(oL N).1
  obtain⟨cf,jM,gU,zY,oe,_⟩:=Hl c.cs r R c.cs.length (Nat.le_refl _) (Hm c.cs r R c7 i7 j7) 1 (.inr mF) c.cr[k] t kn _ pR hb DH (nZ N) (by rw[DI];exact zh)
  have oR:=BW (pJ c.cs) 1 c.cr[k]
  have s1:=Wu c hk
  generalize c.cr[k]=u at*
  generalize comp (pJ c.cs) 1 u=y at*
  obtain⟨fa,fc,rfl,Bx,hf2⟩:=zY.cells
  have yx:zi 3 [([],y)] [.i .i64 y.op,.i .i64 y.num,fa]:=by
   have:=(zi.nil 3).app3 ([],y) _ zY (by show y.sz≤1000;omega)
   simpa using this
  have Ey:=Hn
  unfold l7 jE ml at K ⊢
  simp only[List.cons_append,List.nil_append]at K ⊢
  rcases pZ.1 (3,cr,Sr c k) (by simp[m7])with⟨my,AU⟩|⟨i,g,n,cs,hv,hE,hi,hn,hB,hfz⟩
  ·simp only at my AU
   subst my
   rw[AU,List.nil_append]at s1
   have vJ:=(pZ.mono (Nat.le_succ (80+k))).new (by omega) 6 (by simp[m7]) (sz:=3) rfl [.i .i64 y.op,.i .i64 y.num,fa] rfl _ yx
   simp only[qA,seval,repl,jq,qw,ig,lR,iY,jO,ow,U,V,Hk,EZ,Kd,K,iP,iU,hw,gU,qI,rq,mP.kept1,Bx.froz1,jH,jZ,iz,jk,jC,F2,sx,F3,Ey,jK,j1,tq,Nat.lt_succ_self,Bf,pq,kU]
   refine⟨_,rfl,_,_,iu R R.length ⟨1,.cells [.i .i64 y.op,.i .i64 y.num,fa] 0 false⟩,jM,.isl .S (R.length+7) 1 0 1 3,rfl,oe,(by rw[s1];exact vJ), ?_, ?_, ?_, ?_, ?_, ?_, ?_, ?_, ?_⟩
   all_goals (simp only[qA,seval,U,V,Hk,EZ,X,Y,Z])
  ·simp only at hv
   subst hv
   have Am:=pZ.app 6 (by simp[m7]) (sz:=3) rfl rfl hE hi hn hB [.i .i64 y.op,.i .i64 y.num,fa] rfl _ (hfz.app3 ([],y) _ zY (by show y.sz≤1000;omega)) (g+1)
   have vK:(n+1)*40≤roomy:=BX (by omega)
   simp only[qA,seval,repl,jq,qw,ig,lR,iY,jO,ow,U,V,Hk,EZ,Kd,K,iP,iU,hw,gU,qI,rq,mP.kept1,Bx.froz1,jH,jZ,iz,jf,jD,iO,F2,sx,F3,jK,j1,mD,tr,Nat.lt_succ_self,Bf,pq,kU,hE,hn,vK]
   refine⟨_,rfl,_,_,iu R i ⟨g+1,.cells (cs++ [.i .i64 y.op,.i .i64 y.num,fa]) 0 false⟩,jM,.isl .S (i+7) (g+1) 0 (n+1) 3,rfl,oe,(by rw[s1];exact Am), ?_, ?_, ?_, ?_, ?_, ?_, ?_, ?_, ?_⟩
   all_goals (simp only[qA,seval,U,V,Hk,EZ,X,Y,Z])
 ·rintro _ ⟨fr,W,R,kn,cr,rfl,pR,pZ,U,V,Hk,EZ,Kd,X,Y,Z,K⟩
  simp only[qA,seval,ow,EZ,Kd,Int.lt_irrefl]
  exact⟨_,_,ui,rfl,rfl,X,Y,Z,R,kn,cr,rfl,pR,pZ.mono (by omega),K⟩
theorem Ke{lh:gW b8}{sh:List b8}{k g off wm:Nat}{cs:List T}(i:gY sh k=⟨g,.cells cs wm false⟩)(hc:cs.all froz1=true):fzV lh sh false (.ptr .S k g off)=some (.vp (cs.drop off),[(.S,k,⟨g,.cells cs cs.length false⟩)]):=by
 have r:(cs.drop off).all froz1=true:=by
  rw[List.all_eq_true]at hc ⊢
  exact fun x hx=>hc x (List.mem_of_mem_drop hx)
 have D:(St.mk .nil lh sh).get .S k=gY sh k:=rfl
 unfold fzV iq
 rw[fz]
 simp only[Bool.false_and,Bool.false_eq_true,if_false,Q.run,D,i,if_true]
 rw[nk _ r]
 rfl
theorem asc{f:Fm}{c:List T}(h:n4 f c):c.all froz1=true:=by
 obtain⟨a,r,rfl,i,D⟩:=h.cells
 simp[i.froz1,ym]
theorem ae3: ∀{l:List Fm} {cs:List T},iF l cs→cs.all froz1=true
 | [],cs,h=>by rw[iF]at h;rw[h];rfl
 |f::l,cs,h=>by
  rw[iF]at h
  obtain⟨c,r,i,D,F⟩:=h
  rw[i,List.all_append,asc D,ae3 F];rfl
theorem asd: ∀{l:List (List Nat×Fm)} {cs:List T},hZ Zb l cs→cs.all froz1=true
 | [],cs,h=>by rw[hZ]at h;rw[h];rfl
 |u::l,cs,h=>by
  obtain⟨c,r,rfl,⟨F,rfl,i⟩,D⟩:=h
  rw[List.all_append,asd D,List.all_cons,asc i];rfl
theorem zi.froz{sz:Nat}{l:RL}{cs:List T}(h:zi sz l cs):cs.all froz1=true:=by
 have i:=h.1
 split at i
 ·exact asd i
 ·exact ae3 i
theorem zi.at4{l:RL}{cs:List T}(h:zi 4 l cs){n k:Nat}(O:n*4=cs.length)(hk:k<n): ∃(f:Fm) (b:T) (D r:List T),cs.drop (k*4+1)= .i .i64 f.op:: .i .i64 f.num::b::r∧IsSl b f.args.length D∧iF f.args D∧f.sz≤1000:=by
 have H:=h.2
 have F:=h.1
 rw[if_pos rfl]at F
 have U:=hZ.len Zb.len F
 have Ss:k<l.length:=by omega
 obtain⟨c,r,I,V,rfl,J⟩:=hZ.drop Zb.len k Ss F
 obtain⟨b,D,rfl,K,N⟩:=J.cells
 refine⟨l[k].2,b,D,r, ?_,K,N,H _ (List.getElem_mem Ss)⟩
 rw[←List.drop_drop,I]
 rfl
theorem zi.at3{l:RL}{cs:List T}(h:zi 3 l cs){n k:Nat}(U:n*3=cs.length)(hk:k<n): ∃(f:Fm) (b:T) (D r:List T),cs.drop (k*3)= .i .i64 f.op:: .i .i64 f.num::b::r∧IsSl b f.args.length D∧iF f.args D∧f.sz≤1000:=by
 have I:=h.2
 have F:=h.1
 rw[if_neg (by decide)]at F
 have J:=iF.len F
 rw[List.length_map]at J
 have Ss:k<l.length:=by omega
 have Ws:k<(l.map Prod.snd).length:=by simpa using Ss
 obtain⟨c,r,K,H,_⟩:=iF.drop k Ws F
 rw[List.getElem_map]at H
 obtain⟨b,D,rfl,N,O⟩:=H.cells
 exact⟨l[k].2,b,D,r,K,N,O,I _ (List.getElem_mem Ss)⟩
def RwW(R:List b8)(p:Nat×T×RL):Prop:=(p.2.1= .nilsl∧p.2.2= [])∨ ∃i g n cs wm,p.2.1= .isl .S (i+7) g 0 n p.1∧gY R i=⟨g,.cells cs wm false⟩∧i<R.length∧n*p.1=cs.length∧n≤1000∧zi p.1 p.2.2 cs
def wK(R:List b8)(i:List (Nat×T×RL)):Prop:= ∀p∈i,RwW R p
theorem ll.toW{R:List b8}{B:Nat}{r:List (Nat×T×RL)}(h:ll R B r)(N:B≤1000):wK R r:=fun p D=>by
 rcases h.1 p D with h|⟨i,g,n,cs,F,H,I,J,O,K⟩
 ·exact .inl h
 ·exact .inr ⟨i,g,n,cs,0,F,H,I,J,by omega,K⟩
theorem ax8(c:Ct)(F a8 a9 gX hU gZ zT aT fT I D J K N c3 cr:T)(m:List (List Nat×Nat))(kn:List (Nat×Int))(Wv:Bool)(R0:List b8)(l1 l2 l3 e1 e2 e3 er:RL)(Ie:wK R0 (m7 I D J K N c3 cr l1 l2 l3 e1 e2 e3 er))(O:Nat)(EU:(D= .nilsl∧O=0)∨ ∃i g,D= .isl .S (i+7) g 0 O 4)(A2:O≤1000)(k2 k3 ub:b8)(fr:Fr)(lh:gW b8)(sh:List b8)(lC:sh=ln F m kn R0)
  (W:an fr 8= .ptr .L 37 1 0) (U:an fr 181= .i .i64 (O:Int)) (hi:an fr 182= .i .i64 0) (Y:b7 lh 2=k2) (Z:b7 lh 3=k3) (mc:b7 lh 35=ub) (V:b7 lh 37=⟨1,.cells (l7 zT aT fT c F a8 a9 gX hU gZ (ml I D J K N c3 cr (.b Wv))) 0 true⟩):
  wJ 232 ou fr lh sh (.ext 10)∧
  (b7 (nE pE 232 ou fr lh sh) 2=k2∧b7 (nE pE 232 ou fr lh sh) 3=k3∧b7 (nE pE 232 ou fr lh sh) 35=ub∧ ∃(R:List b8) (H:Bool),oi pE 232 ou fr lh sh=ln F m kn R∧wK R (m7 I D J K N c3 cr l1 l2 l3 e1 e2 e3 er)∧b7 (nE pE 232 ou fr lh sh) 37=⟨1,.cells (l7 zT aT fT c F a8 a9 gX hU gZ (ml I D J K N c3 cr (.b H))) 0 true⟩):=by
 refine jv (P:=fun jA iI iE=>b7 iI 2=k2∧b7 iI 3=k3∧b7 iI 35=ub∧ ∃(R:List b8) (H:Bool),iE=ln F m kn R∧wK R (m7 I D J K N c3 cr l1 l2 l3 e1 e2 e3 er)∧b7 iI 37=⟨1,.cells (l7 zT aT fT c F a8 a9 gX hU gZ (ml I D J K N c3 cr (.b H))) 0 true⟩)
  (jR (fun k st=> ∃(fr:Fr) (X:gW b8) (R:List b8) (H:Bool),st=⟨fr,X,ln F m kn R⟩∧wK R (m7 I D J K N c3 cr l1 l2 l3 e1 e2 e3 er)∧an fr 8= .ptr .L 37 1 0∧an fr 181= .i .i64 (O:Int)∧an fr 182= .i .i64 (k:Int)∧b7 X 2=k2∧b7 X 3=k3∧b7 X 35=ub∧b7 X 37=⟨1,.cells (l7 zT aT fT c F a8 a9 gX hU gZ (ml I D J K N c3 cr (.b H))) 0 true⟩) _ O ?_ ?_ 0 _ (Nat.zero_le _) ⟨fr,lh,R0,Wv,by rw[lC],Ie,W,U,hi,Y,Z,mc,V⟩)
 ·rintro k _ hk ⟨fr,X,R,H,rfl,pZ,W,U,hi,Y,Z,mc,V⟩
  left
  have iP:(k:Int)<O:=by omega
  have hw:=iJ (k:=k) (by omega)
  have DJ: ∃i g,D= .isl .S (i+7) g 0 O 4:=by
   rcases EU with⟨_,h⟩|h
   ·omega
   ·exact h
  obtain⟨i0,g0,DJ⟩:=DJ
  rcases pZ (4,D,l2) (by simp[m7])with⟨my,_⟩|⟨i,g,n,cs,wm,hv,hE,qJ,hn,hB,hfz⟩
  ·simp only[DJ]at my;cases my
  simp only[DJ]at hv
  injection hv with _ q1 q2 _ q3 _
  have q1:i0=i:=by omega
  subst q1 q2 q3
  obtain⟨f,b,cb,r,hdr,hb,Zc,ax9⟩:=hfz.at4 hn hk
  have hus:=ae4 (p:=1) f b cb r hb Zc (by omega)
  have hcz:=hfz.froz
  have hz: ∀lh,fzV lh (ln F m kn R) false (.ptr .S (i0+7) g0 (k*4+1))=some (.vp (.i .i64 f.op:: .i .i64 f.num::b::r),[(.S,i0+7,⟨g0,.cells cs cs.length false⟩)]):=fun lh=>by
   rw[Ke (by rw[F2];exact hE) hcz,hdr]
  have hzL: ∀lh,BJ lh (ln F m kn R) false [.ptr .S (i0+7) g0 (k*4+1),.i .i64 1]=some ([.vp (.i .i64 f.op:: .i .i64 f.num::b::r),.i .i64 1],[(.S,i0+7,⟨g0,.cells cs cs.length false⟩)]):=fun lh=>by
   rw[qt,qt,BP,hz lh,si (by rfl)];rfl
  have mF: ∀x,scalar (.b x)=true:=fun _=>rfl
  unfold l7 jE ml at V ⊢
  simp only[List.cons_append,List.nil_append,DJ]at V ⊢
  cases H with
  |true=>
   simp only[qA,seval,ou,W,U,hi,V,iP,hw]
   refine⟨_,rfl,_,_,R,true,rfl,(by rw[←DJ];exact pZ), ?_, ?_, ?_, ?_, ?_, ?_, ?_⟩
   all_goals (simp only[qA,seval,W,U,Y,Z,mc])
  |false=>
   simp only[qA,seval,kS,ou,W,U,hi,V,iP,hw,hzL,hus,mF,aoW,hk]
   refine⟨_,rfl,_,_,R,f.us 1,rfl,(by rw[←DJ];exact pZ), ?_, ?_, ?_, ?_, ?_, ?_, ?_⟩
   all_goals (simp only[qA,seval,W,U,Y,Z,mc])
 ·rintro _ ⟨fr,X,R,H,rfl,pZ,W,U,hi,Y,Z,mc,V⟩
  simp only[qA,seval,ou,U,hi,Int.lt_irrefl]
  exact⟨_,_,ui,rfl,rfl,Y,Z,mc,R,H,rfl,pZ,V⟩
theorem ayc(c:Ct)(F a8 a9 gX hU gZ zT aT fT I J K N D c3 cr:T)(m:List (List Nat×Nat))(kn:List (Nat×Int))(Wv:Bool)(R0:List b8)(l1 l2 l3 e1 e2 e3 er:RL)(Ie:wK R0 (m7 I J K N D c3 cr l1 l2 l3 e1 e2 e3 er))(O:Nat)(EU:(D= .nilsl∧O=0)∨ ∃i g,D= .isl .S (i+7) g 0 O 3)(A2:O≤1000)(k2 k3 ub:b8)(fr:Fr)(lh:gW b8)(sh:List b8)(lC:sh=ln F m kn R0)
  (W:an fr 8= .ptr .L 37 1 0) (U:an fr 209= .i .i64 (O:Int)) (hi:an fr 210= .i .i64 0) (Y:b7 lh 2=k2) (Z:b7 lh 3=k3) (mc:b7 lh 35=ub) (V:b7 lh 37=⟨1,.cells (l7 zT aT fT c F a8 a9 gX hU gZ (ml I J K N D c3 cr (.b Wv))) 0 true⟩):
  wJ 232 ot fr lh sh (.ext 12)∧
  (b7 (nE pE 232 ot fr lh sh) 2=k2∧b7 (nE pE 232 ot fr lh sh) 3=k3∧b7 (nE pE 232 ot fr lh sh) 35=ub∧ ∃(R:List b8) (H:Bool),oi pE 232 ot fr lh sh=ln F m kn R∧wK R (m7 I J K N D c3 cr l1 l2 l3 e1 e2 e3 er)∧b7 (nE pE 232 ot fr lh sh) 37=⟨1,.cells (l7 zT aT fT c F a8 a9 gX hU gZ (ml I J K N D c3 cr (.b H))) 0 true⟩):=by
 refine jv (P:=fun jA iI iE=>b7 iI 2=k2∧b7 iI 3=k3∧b7 iI 35=ub∧ ∃(R:List b8) (H:Bool),iE=ln F m kn R∧wK R (m7 I J K N D c3 cr l1 l2 l3 e1 e2 e3 er)∧b7 iI 37=⟨1,.cells (l7 zT aT fT c F a8 a9 gX hU gZ (ml I J K N D c3 cr (.b H))) 0 true⟩)
  (jR (fun k st=> ∃(fr:Fr) (X:gW b8) (R:List b8) (H:Bool),st=⟨fr,X,ln F m kn R⟩∧wK R (m7 I J K N D c3 cr l1 l2 l3 e1 e2 e3 er)∧an fr 8= .ptr .L 37 1 0∧an fr 209= .i .i64 (O:Int)∧an fr 210= .i .i64 (k:Int)∧b7 X 2=k2∧b7 X 3=k3∧b7 X 35=ub∧b7 X 37=⟨1,.cells (l7 zT aT fT c F a8 a9 gX hU gZ (ml I J K N D c3 cr (.b H))) 0 true⟩) _ O ?_ ?_ 0 _ (Nat.zero_le _) ⟨fr,lh,R0,Wv,by rw[lC],Ie,W,U,hi,Y,Z,mc,V⟩)
 ·rintro k _ hk ⟨fr,X,R,H,rfl,pZ,W,U,hi,Y,Z,mc,V⟩
  left
  have iP:(k:Int)<O:=by omega
  have hw:=iJ (k:=k) (by omega)
  have DJ: ∃i g,D= .isl .S (i+7) g 0 O 3:=by
   rcases EU with⟨_,h⟩|h
   ·omega
   ·exact h
  obtain⟨i0,g0,DJ⟩:=DJ
  rcases pZ (3,D,e2) (by simp[m7])with⟨my,_⟩|⟨i,g,n,cs,wm,hv,hE,qJ,hn,hB,hfz⟩
  ·simp only[DJ]at my;cases my
  simp only[DJ]at hv
  injection hv with _ q1 q2 _ q3 _
  have q1:i0=i:=by omega
  subst q1 q2 q3
  obtain⟨f,b,cb,r,hdr,hb,Zc,ax9⟩:=hfz.at3 hn hk
  have hus:=ae4 (p:=1) f b cb r hb Zc (by omega)
  have hcz:=hfz.froz
  have hz: ∀lh,fzV lh (ln F m kn R) false (.ptr .S (i0+7) g0 (k*3))=some (.vp (.i .i64 f.op:: .i .i64 f.num::b::r),[(.S,i0+7,⟨g0,.cells cs cs.length false⟩)]):=fun lh=>by
   rw[Ke (by rw[F2];exact hE) hcz,hdr]
  have hzL: ∀lh,BJ lh (ln F m kn R) false [.ptr .S (i0+7) g0 (k*3),.i .i64 1]=some ([.vp (.i .i64 f.op:: .i .i64 f.num::b::r),.i .i64 1],[(.S,i0+7,⟨g0,.cells cs cs.length false⟩)]):=fun lh=>by
   rw[qt,qt,BP,hz lh,si (by rfl)];rfl
  have mF: ∀x,scalar (.b x)=true:=fun _=>rfl
  unfold l7 jE ml at V ⊢
  simp only[List.cons_append,List.nil_append,DJ]at V ⊢
  cases H with
  |true=>
   simp only[qA,seval,ot,W,U,hi,V,iP,hw]
   refine⟨_,rfl,_,_,R,true,rfl,(by rw[←DJ];exact pZ), ?_, ?_, ?_, ?_, ?_, ?_, ?_⟩
   all_goals (simp only[qA,seval,W,U,Y,Z,mc])
  |false=>
   simp only[qA,seval,kS,ot,W,U,hi,V,iP,hw,hzL,hus,mF,aoW,hk]
   refine⟨_,rfl,_,_,R,f.us 1,rfl,(by rw[←DJ];exact pZ), ?_, ?_, ?_, ?_, ?_, ?_, ?_⟩
   all_goals (simp only[qA,seval,W,U,Y,Z,mc])
 ·rintro _ ⟨fr,X,R,H,rfl,pZ,W,U,hi,Y,Z,mc,V⟩
  simp only[qA,seval,ot,U,hi,Int.lt_irrefl]
  exact⟨_,_,ui,rfl,rfl,Y,Z,mc,R,H,rfl,pZ,V⟩
theorem ayd{fr:Fr}{lh:gW b8}{sh:List b8}{D:Option (Out×St)}(l:List Zo)(J:(l.map Zo.nm).Nodup)(a:T)(K:List T)(X:IsSl a l.length K)(hc:hZ Mr l K)(I:l.length≤100)(N c3 Kf F:b8)(Y:DC pE 232 (.loop oy) ⟨fr,lh,sh⟩=D)
  (Z:an fr 9= .mp .L 38 1) (O:an fr 40=a) (Ww:an fr 41= .i .i64 (l.length:Int)) (U:an fr 42= .i .i64 0) (o2:b7 lh 2=N) (o3:b7 lh 3=c3) (mc:b7 lh 35=Kf) (jQ:b7 lh 37=F) (Kg:b7 lh 38=⟨1,.map [] [] false⟩):
  ∃(V:Fr) (H:gW b8) (W:List b8),D=some (.ext 0,⟨V,H,W⟩)∧(b7 H 2=N∧b7 H 3=c3∧b7 H 35=Kf∧b7 H 37=F∧(∃m,b7 H 38=⟨1,.map (m.map fun p=>sK p.1) (m.map fun p=>T.agg p.2) false⟩∧Ms l m∧m.map Prod.fst=l.map Zo.nm)∧W=sh)∧ ∀s,(jU (.loop oy)).contains s=false→an V s=an fr s:=by
 obtain⟨e,r⟩:=nwz l J a K X hc I N c3 Kf F fr lh sh Z O Ww U o2 o3 mc jQ Kg
 exact⟨_,_,_,Y.symm.trans e,r,fun s hs=>lB e s hs⟩
theorem aye{fr:Fr}{lh:gW b8}{sh:List b8}{D:Option (Out×St)}(l:List Ap)(J:(l.map Ap.cd).Nodup)(a:T)(K:List T)(ha:IsSl a l.length K)(hc:hZ ApR l K)(F:l.length≤100)(H:List Zo)(m:List (List Nat×List T))(N:Ms H m∧m.map Prod.fst=H.map Zo.nm)(O: ∀u∈l,u.zn∈H.map Zo.nm)(U V W:T)(c:Ct)(X Y Z gX hU gZ:T)(vs:List T)(c2 c3:b8)(hD:DC pE 232 (.loop pD) ⟨fr,lh,sh⟩=D)
  (h8:an fr 8= .ptr .L 37 1 0) (h9:an fr 9= .mp .L 38 1) (Su:an fr 52=a) (tu:an fr 53= .i .i64 (l.length:Int)) (tO:an fr 54= .i .i64 0) (o2:b7 lh 2=c2) (o3:b7 lh 3=c3) (mc:b7 lh 35=⟨1,.map [] [] false⟩) (jQ:b7 lh 37=⟨1,.cells (l7 U V W c X Y Z gX hU gZ vs) 0 true⟩) (Kg:b7 lh 38=⟨1,.map (m.map fun p=>sK p.1) (m.map fun p=>T.agg p.2) false⟩):
  ∃(jA:Fr) (I:gW b8) (iE:List b8),D=some (.ext 2,⟨jA,I,iE⟩)∧(b7 I 2=c2∧b7 I 3=c3∧b7 I 37=⟨1,.cells (l7 U V W c X Y Z gX hU gZ vs) 0 true⟩∧(∃q,b7 I 35=⟨1,.map (q.map fun p=>sK p.1) (q.map fun p=>T.agg p.2) false⟩∧Rk H l q∧q.map Prod.fst=l.map Ap.cd)∧iE=sh)∧ ∀s,(jU (.loop pD)).contains s=false→an jA s=an fr s:=by
 obtain⟨e,r⟩:=nwa l J a K ha hc F H m N O U V W c X Y Z gX hU gZ vs c2 c3 fr lh sh h8 h9 Su tu tO o2 o3 mc jQ Kg
 exact⟨_,_,_,hD.symm.trans e,r,fun s hs=>lB e s hs⟩
theorem ayf{fr:Fr}{lh:gW b8}{sh:List b8}{D:Option (Out×St)}(c:Ct)(F H:T)(c7 c8:List T)(i7:IsSl F c.cs.length c7)(j7:lS c.cs c7)(i8:IsSl H c.ru.length c8)(j8:hZ Sv c.ru c8)(I:c.ru.length≤40)(tV: ∀u∈c.ru,Rj c.cs u.sc u.x)(K N O U V hU W X:T)(Y c3 Kf:b8)(DG:List (Nat×Int))(Al:od c.cs DG)(hD:DC pE 232 (.loop mn) ⟨fr,lh,sh⟩=D)(lC:sh=ln F (je c.cs c.cs.length) DG [])
  (h8:an fr 8= .ptr .L 37 1 0) (jw:an fr 14= .ptr .S 2 1 0) (Kh:an fr 73=H) (If:an fr 74= .i .i64 (c.ru.length:Int)) (Sw:an fr 75= .i .i64 0) (o2:b7 lh 2=Y) (o3:b7 lh 3=c3) (mc:b7 lh 35=Kf) (jQ:b7 lh 37=⟨1,.cells (l7 K N O c F H U V hU W (ml .nilsl .nilsl .nilsl .nilsl .nilsl .nilsl .nilsl X)) 0 true⟩):
  ∃(Z:Fr) (J:gW b8) (iE:List b8),D=some (.ext 4,⟨Z,J,iE⟩)∧(b7 J 2=Y∧b7 J 3=c3∧b7 J 35=Kf∧ ∃(R:List b8) (kn:List (Nat×Int)) (r1 r2 r3:T),iE=ln F (je c.cs c.cs.length) kn R∧od c.cs kn∧ll R 40 (m7 r1 r2 r3 .nilsl .nilsl .nilsl .nilsl (yy c 1 c.ru.length) (yy c 2 c.ru.length) (yy c 3 c.ru.length) [] [] [] [])∧b7 J 37=⟨1,.cells (l7 K N O c F H U V hU W (ml r1 r2 r3 .nilsl .nilsl .nilsl .nilsl X)) 0 true⟩)∧ ∀s,(jU (.loop mn)).contains s=false→an Z s=an fr s:=by
 obtain⟨e,r⟩:=nwr c F H c7 c8 i7 j7 i8 j8 I tV K N O U V hU W X Y c3 Kf DG Al fr lh sh lC h8 jw Kh If Sw o2 o3 mc jQ
 exact⟨_,_,_,hD.symm.trans e,r,fun s hs=>lB e s hs⟩
theorem ayg{fr:Fr}{lh:gW b8}{sh:List b8}{D:Option (Out×St)}(c:Ct)(F H:T)(c7 c9:List T)(i7:IsSl F c.cs.length c7)(j7:lS c.cs c7)(i9:IsSl H c.co.length c9)(j9:hZ Zd c.co c9)(I:c.co.length≤40)(tV: ∀u∈c.co,Rj c.cs u.sc u.x)(U V W X Y hU Z nb J K N:T)(k2 k3 ub:b8)(DG:List (Nat×Int))(Al:od c.cs DG)(R0:List b8)(l1 l2 l3:RL)(Ie:ll R0 40 (m7 J K N .nilsl .nilsl .nilsl .nilsl l1 l2 l3 [] [] [] []))(hD:DC pE 232 (.loop pz) ⟨fr,lh,sh⟩=D)(lC:sh=ln F (je c.cs c.cs.length) DG R0)
  (h8:an fr 8= .ptr .L 37 1 0) (jw:an fr 14= .ptr .S 2 1 0) (Mt:an fr 105=H) (Ki:an fr 106= .i .i64 (c.co.length:Int)) (Kj:an fr 107= .i .i64 0) (o2:b7 lh 2=k2) (o3:b7 lh 3=k3) (mc:b7 lh 35=ub) (jQ:b7 lh 37=⟨1,.cells (l7 U V W c F X H Y hU Z (ml J K N .nilsl .nilsl .nilsl .nilsl nb)) 0 true⟩):
  ∃(jA:Fr) (O:gW b8) (iE:List b8),D=some (.ext 6,⟨jA,O,iE⟩)∧(b7 O 2=k2∧b7 O 3=k3∧b7 O 35=ub∧ ∃(R:List b8) (kn:List (Nat×Int)) (c1 c2 c3:T),iE=ln F (je c.cs c.cs.length) kn R∧od c.cs kn∧ll R 80 (m7 J K N c1 c2 c3 .nilsl l1 l2 l3 (Bz c 1 c.co.length) (Bz c 2 c.co.length) (Bz c 3 c.co.length) [])∧b7 O 37=⟨1,.cells (l7 U V W c F X H Y hU Z (ml J K N c1 c2 c3 .nilsl nb)) 0 true⟩)∧ ∀s,(jU (.loop pz)).contains s=false→an jA s=an fr s:=by
 obtain⟨e,r⟩:=nwc c F H c7 c9 i7 j7 i9 j9 I tV U V W X Y hU Z nb J K N k2 k3 ub DG Al R0 l1 l2 l3 Ie fr lh sh lC h8 jw Mt Ki Kj o2 o3 mc jQ
 exact⟨_,_,_,hD.symm.trans e,r,fun s hs=>lB e s hs⟩
theorem ayh{fr:Fr}{lh:gW b8}{sh:List b8}{D:Option (Out×St)}(c:Ct)(F H:T)(c7 Fg:List T)(i7:IsSl F c.cs.length c7)(j7:lS c.cs c7)(W:IsSl H c.cr.length Fg)(Oy:j3 c.cr Fg)(I:c.cr.length≤40)(tV: ∀u∈c.cr,Rj c.cs 1 u)(X Y Z a8 a9 hU gZ nb J K N O U c3:T)(k2 k3 ub:b8)(DG:List (Nat×Int))(Al:od c.cs DG)(R0:List b8)(l1 l2 l3 q1 q2 q3:RL)(Ie:ll R0 80 (m7 J K N O U c3 .nilsl l1 l2 l3 q1 q2 q3 []))(hD:DC pE 232 (.loop ow) ⟨fr,lh,sh⟩=D)(lC:sh=ln F (je c.cs c.cs.length) DG R0)
  (h8:an fr 8= .ptr .L 37 1 0) (jw:an fr 14= .ptr .S 2 1 0) (Hk:an fr 156=H) (EZ:an fr 157= .i .i64 (c.cr.length:Int)) (Kd:an fr 158= .i .i64 0) (o2:b7 lh 2=k2) (o3:b7 lh 3=k3) (mc:b7 lh 35=ub) (jQ:b7 lh 37=⟨1,.cells (l7 X Y Z c F a8 a9 H hU gZ (ml J K N O U c3 .nilsl nb)) 0 true⟩):
  ∃(jA:Fr) (V:gW b8) (iE:List b8),D=some (.ext 8,⟨jA,V,iE⟩)∧(b7 V 2=k2∧b7 V 3=k3∧b7 V 35=ub∧ ∃(R:List b8) (kn:List (Nat×Int)) (cr:T),iE=ln F (je c.cs c.cs.length) kn R∧od c.cs kn∧ll R 120 (m7 J K N O U c3 cr l1 l2 l3 q1 q2 q3 (Sr c c.cr.length))∧b7 V 37=⟨1,.cells (l7 X Y Z c F a8 a9 H hU gZ (ml J K N O U c3 cr nb)) 0 true⟩)∧ ∀s,(jU (.loop ow)).contains s=false→an jA s=an fr s:=by
 obtain⟨e,r⟩:=nwd c F H c7 Fg i7 j7 W Oy I tV X Y Z a8 a9 hU gZ nb J K N O U c3 k2 k3 ub DG Al R0 l1 l2 l3 q1 q2 q3 Ie fr lh sh lC h8 jw Hk EZ Kd o2 o3 mc jQ
 exact⟨_,_,_,hD.symm.trans e,r,fun s hs=>lB e s hs⟩
theorem asg{fr:Fr}{lh:gW b8}{sh:List b8}{D:Option (Out×St)}(c:Ct)(H V W X hU Y Z aT fT I F J K N c3 cr:T)(m:List (List Nat×Nat))(kn:List (Nat×Int))(Wv:Bool)(R0:List b8)(l1 l2 l3 e1 e2 e3 er:RL)(Ie:wK R0 (m7 I F J K N c3 cr l1 l2 l3 e1 e2 e3 er))(O:Nat)(EU:(F= .nilsl∧O=0)∨ ∃i g,F= .isl .S (i+7) g 0 O 4)(A2:O≤1000)(k2 k3 ub:b8)(hD:DC pE 232 (.loop ou) ⟨fr,lh,sh⟩=D)(lC:sh=ln H m kn R0)
  (h8:an fr 8= .ptr .L 37 1 0) (hl:an fr 181= .i .i64 (O:Int)) (hi:an fr 182= .i .i64 0) (o2:b7 lh 2=k2) (o3:b7 lh 3=k3) (mc:b7 lh 35=ub) (jQ:b7 lh 37=⟨1,.cells (l7 Z aT fT c H V W X hU Y (ml I F J K N c3 cr (.b Wv))) 0 true⟩):
  ∃(jA:Fr) (U:gW b8) (iE:List b8),D=some (.ext 10,⟨jA,U,iE⟩)∧(b7 U 2=k2∧b7 U 3=k3∧b7 U 35=ub∧ ∃(R:List b8) (nb:Bool),iE=ln H m kn R∧wK R (m7 I F J K N c3 cr l1 l2 l3 e1 e2 e3 er)∧b7 U 37=⟨1,.cells (l7 Z aT fT c H V W X hU Y (ml I F J K N c3 cr (.b nb))) 0 true⟩)∧ ∀s,(jU (.loop ou)).contains s=false→an jA s=an fr s:=by
 obtain⟨e,r⟩:=ax8 c H V W X hU Y Z aT fT I F J K N c3 cr m kn Wv R0 l1 l2 l3 e1 e2 e3 er Ie O EU A2 k2 k3 ub fr lh sh lC h8 hl hi o2 o3 mc jQ
 exact⟨_,_,_,hD.symm.trans e,r,fun s hs=>lB e s hs⟩
theorem ash{fr:Fr}{lh:gW b8}{sh:List b8}{D:Option (Out×St)}(c:Ct)(H V W X hU Y Z aT fT I J K N F c3 cr:T)(m:List (List Nat×Nat))(kn:List (Nat×Int))(Wv:Bool)(R0:List b8)(l1 l2 l3 e1 e2 e3 er:RL)(Ie:wK R0 (m7 I J K N F c3 cr l1 l2 l3 e1 e2 e3 er))(O:Nat)(EU:(F= .nilsl∧O=0)∨ ∃i g,F= .isl .S (i+7) g 0 O 3)(A2:O≤1000)(k2 k3 ub:b8)(hD:DC pE 232 (.loop ot) ⟨fr,lh,sh⟩=D)(lC:sh=ln H m kn R0)
  (h8:an fr 8= .ptr .L 37 1 0) (hl:an fr 209= .i .i64 (O:Int)) (hi:an fr 210= .i .i64 0) (o2:b7 lh 2=k2) (o3:b7 lh 3=k3) (mc:b7 lh 35=ub) (jQ:b7 lh 37=⟨1,.cells (l7 Z aT fT c H V W X hU Y (ml I J K N F c3 cr (.b Wv))) 0 true⟩):
  ∃(jA:Fr) (U:gW b8) (iE:List b8),D=some (.ext 12,⟨jA,U,iE⟩)∧(b7 U 2=k2∧b7 U 3=k3∧b7 U 35=ub∧ ∃(R:List b8) (nb:Bool),iE=ln H m kn R∧wK R (m7 I J K N F c3 cr l1 l2 l3 e1 e2 e3 er)∧b7 U 37=⟨1,.cells (l7 Z aT fT c H V W X hU Y (ml I J K N F c3 cr (.b nb))) 0 true⟩)∧ ∀s,(jU (.loop ot)).contains s=false→an jA s=an fr s:=by
 obtain⟨e,r⟩:=ayc c H V W X hU Y Z aT fT I J K N F c3 cr m kn Wv R0 l1 l2 l3 e1 e2 e3 er Ie O EU A2 k2 k3 ub fr lh sh lC h8 hl hi o2 o3 mc jQ
 exact⟨_,_,_,hD.symm.trans e,r,fun s hs=>lB e s hs⟩
theorem Wx{R:List b8}{r:List (Nat×T×RL)}{sz:Nat}{v:T}(l:RL)(h:wK R r)(D:(sz,v,l)∈r): ∃n:Nat,((v= .nilsl∧n=0)∨ ∃i g,v= .isl .S (i+7) g 0 n sz)∧n≤1000∧lenI v=some (.i .i64 (n:Int)):=by
 rcases h _ D with⟨h,_⟩|⟨i,g,n,cs,wm,h1,h2,h3,h4,h5,h6⟩
 ·simp only at h;subst h;exact⟨0,.inl ⟨rfl,rfl⟩,by omega,rfl⟩
 ·simp only at h1;subst h1;exact⟨n,.inr ⟨i,g,rfl⟩,h5,rfl⟩
theorem Wy{m:Nat}{lh:gW b8}{sh:List b8}{k g wm:Nat}{cs:List T}{bx:Bool}(h:b7 lh k=⟨g,.cells cs wm bx⟩):fzW (m+1) lh sh false (.ptr .L k g 0)=(wG m lh sh false cs).map fun q=>(.vp q.1,q.2++ [(.L,k,⟨g,.cells cs cs.length bx⟩)]):=by
 have i:(St.mk .nil lh sh).get .L k=b7 lh k:=rfl
 unfold fzW wG
 rw[fz]
 simp only[Bool.false_and,Bool.false_eq_true,if_false,Q.run,i,h,if_true,List.drop_zero]
 rw[iS]
 cases (iL (fz false (m+1)) cs).run (St.mk .nil lh sh).get sh.length <;> rfl
def Ln(sz:Nat)(l:RL)(v:T):Prop:= ∃n cs,IsSl v n cs∧n*sz=cs.length∧zi sz l cs
theorem wL{R:List b8}{D:List (Nat×T×RL)}{sz:Nat}{v:T}(l:RL)(h:wK R D)(H:(sz,v,l)∈D)(F:T)(m:List (List Nat×Nat))(kn:List (Nat×Int)): ∃r us,froz1 r=true∧(∀lh n,fzW n lh (ln F m kn R) false v=some (r,us))∧Ln sz l r:=by
 rcases h _ H with⟨h,hl⟩|⟨i,g,n,cs,wm,h1,h2,h3,h4,h5,h6⟩
 ·simp only at h hl;subst h hl;exact⟨.nilsl,[],rfl,fun lh n=>Ai rfl,0,[],.inl ⟨rfl,rfl,rfl⟩,by simp,zi.nil sz⟩
 ·simp only at h1 h4 h6;subst h1
  refine⟨.sl ((cs.drop 0).take (n*sz)) n false,[(.S,i+7,⟨g,.cells cs cs.length false⟩)],rfl,fun lh k=> ?_,n,cs,.inr ⟨false,by rw[h4];simp⟩,h4,h6⟩
  have I:(St.mk .nil lh (ln F m kn R)).get .S (i+7)=gY R i:=F2 _ _ _ _ _
  simp_all[fzW,fz,Bool.false_and,Bool.false_eq_true,Q.run,Nat.zero_add,Nat.le_refl]
def Kk(t:Tt)(c:Ct)(I:List T):Prop:= ∃(q:List (List Nat×List T)) (i r D F H c3 cr:T) (J:Bool),I= [.vm (q.map fun p=>sK p.1) (q.map fun p=>T.agg p.2),.nilsl,i,r,D,.nilsl,F,H,c3,cr,.b J]∧Rk t.zo t.ap q∧q.map Prod.fst=t.ap.map Ap.cd∧
 Ln 4 (yy c 1 c.ru.length) i∧Ln 4 (yy c 2 c.ru.length) r∧Ln 4 (yy c 3 c.ru.length) D∧Ln 3 (Bz c 1 c.co.length) F∧Ln 3 (Bz c 2 c.co.length) H∧Ln 3 (Bz c 3 c.co.length) c3∧Ln 3 (Sr c c.cr.length) cr
theorem asi(t:Tt)(c:Ct)(I J N F O U V hU W:T)(hT:wM t I J N)(hC:uc c F O U V hU W)(hS:An c)(ht:tW t=0)(hc:mi c=0)(hnz:(t.zo.map Zo.nm).Nodup)(hlz:t.zo.length≤100)(hna:(t.ap.map Ap.cd).Nodup)(Rm:t.ap.length≤100)(hzn: ∀u∈t.ap,u.zn∈t.zo.map Zo.nm)
  (hru: ∀u∈c.ru,Rj c.cs u.sc u.x) (lru:c.ru.length≤40) (tb: ∀u∈c.co,Rj c.cs u.sc u.x) (lco:c.co.length≤40) (LV: ∀u∈c.cr,Rj c.cs 1 u) (lcr:c.cr.length≤40) (lcs:c.cs.length≤32):
  ∃s vs,be pE 23 [.agg [I,J,N],.agg (jE c F O U V hU W)] []=some (.tup [.vp (I::J::N::(jE c F O U V hU W++vs)),.i .i64 0],s)∧vs.all froz1=true∧vs.length=11∧Kk t c vs:=by
 have Y4:=Mu t I J N hT
 obtain⟨s1,hpc⟩:=Oz c F O U V hU W hC hS
 rw[ht]at Y4
 rw[hc]at hpc
 obtain⟨⟨zc,z1,z2⟩,⟨ac,b1,b2⟩,⟨fc,f1,f2⟩⟩:=hT
 obtain⟨⟨c7,i7,j7⟩,⟨c8,i8,j8⟩,⟨c9,i9,j9⟩,⟨Fg,i10,Oy⟩,⟨Sx,i11,Rn⟩,⟨Ze,i12,Wz⟩⟩:=hC
 have hfT:=f1.froz1
 have hnc:=aih c.cs F c7 i7 j7 (by unfold qh;omega)
 rw[show Ho F (je c.cs c.cs.length) [] 4=ln F (je c.cs c.cs.length) [] []by unfold ln;rw[List.append_nil]]at hnc
 have hk7:kept F=true:=by rcases i7 with⟨rfl,_,_⟩|⟨ex,rfl⟩ <;> rfl
 rw[gQ Zy (by simp[Zp])]
 unfold jE at hpc ⊢
 simp only[qA,seval,Zp,Y4,hpc,agi,aoT,z1.froz1,b1.froz1,f1.froz1,i7.froz1,i8.froz1,i9.froz1,i10.froz1,i11.froz1,i12.froz1,z1.lenI]
 generalize K:DC pE 232 (.loop oy) _=D
 obtain⟨f1,l1,s2,rfl,⟨Z,X,mc,Y,⟨m,Kg,hm⟩,rfl⟩,H⟩:=ayd t.zo hnz I zc z1 z2 hlz ⟨1,.cells [I,J,N] 0 true⟩ ⟨1,.cells [.i .i64 c.rp,.i .i64 c.rl,.i .i64 c.cn,.i .i64 c.st,.i .i64 c.ly,.i .i64 c.nf,.i .i64 c.nt,F,O,U,V,hU,W,.i .i64 c.gu] 0 true⟩ ⟨1,.map [] [] false⟩ ⟨1,.cells (l7 I J N c F O U V hU W (ml .nilsl .nilsl .nilsl .nilsl .nilsl .nilsl .nilsl (.b false))) 0 true⟩ K (by simp only[qA,seval]) (by simp only[qA,seval]) (by simp only[qA,seval]) (by simp only[qA,seval]) (by simp only[qA,seval]) (by simp only[qA,seval]) (by simp only[qA,seval]) (by unfold l7 jE ml;simp only[List.cons_append,List.nil_append];simp only[qA,seval]) (by simp only[qA,seval])
 have asl:an f1 2= .ptr .L 2 1 0:=by rw[H 2 (by decide)];simp only[qA,seval]
 have ayj:an f1 3= .ptr .L 3 1 0:=by rw[H 3 (by decide)];simp only[qA,seval]
 have asm:an f1 8= .ptr .L 37 1 0:=by rw[H 8 (by decide)];simp only[qA,seval]
 have ayk:an f1 9= .mp .L 38 1:=by rw[H 9 (by decide)];simp only[qA,seval]
 clear H
 simp only[qA,seval,asl,Z,b1.lenI]
 have r:=Y
 unfold l7 jE ml at r
 simp only[List.cons_append,List.nil_append]at r
 clear K
 generalize K:DC pE 232 (.loop pD) _=D
 obtain⟨f2,l1,s2,rfl,⟨Z,X,Y,⟨q,mc,hq⟩,rfl⟩,H⟩:=aye t.ap hna J ac b1 b2 Rm t.zo m hm hzn I J N c F O U V hU W (ml .nilsl .nilsl .nilsl .nilsl .nilsl .nilsl .nilsl (.b false)) ⟨1,.cells [I,J,N] 0 true⟩ ⟨1,.cells [.i .i64 c.rp,.i .i64 c.rl,.i .i64 c.cn,.i .i64 c.st,.i .i64 c.ly,.i .i64 c.nf,.i .i64 c.nt,F,O,U,V,hU,W,.i .i64 c.gu] 0 true⟩ K (by simp only[qA,seval,asm]) (by simp only[qA,seval,ayk]) (by simp only[qA,seval]) (by simp only[qA,seval]) (by simp only[qA,seval]) (by simp only[Z]) (by simp only[X]) (by simp only[mc]) (by unfold l7 jE ml;simp only[List.cons_append,List.nil_append];simp only[r]) (by simp only[Kg])
 have aEA:an f2 2= .ptr .L 2 1 0:=by rw[H 2 (by decide)];simp(maxDischargeDepth:=6) only[qA,seval,asl]
 have asn:an f2 3= .ptr .L 3 1 0:=by rw[H 3 (by decide)];simp only[qA,seval,ayj]
 have aso:an f2 8= .ptr .L 37 1 0:=by rw[H 8 (by decide)];simp only[qA,seval,asm]
 clear H r
 simp only[qA,seval,asn,X,hk7,hnc,awA,i8.lenI]
 have Al:od c.cs []:=fun i v h=>by simp[iy]at h
 have r:=Y
 unfold l7 jE ml at r
 simp only[List.cons_append,List.nil_append]at r
 clear K
 generalize K:DC pE 232 (.loop mn) _=D
 obtain⟨f3,l1,s2,rfl,⟨Z,X,mc,R,kn,r1,r2,r3,rfl,pR,pZ,Y⟩,H⟩:=ayf c F O c7 c8 i7 j7 i8 j8 lru hru I J N U V hU W (.b false) ⟨1,.cells [I,J,N] 0 true⟩ ⟨1,.cells [.i .i64 c.rp,.i .i64 c.rl,.i .i64 c.cn,.i .i64 c.st,.i .i64 c.ly,.i .i64 c.nf,.i .i64 c.nt,F,O,U,V,hU,W,.i .i64 c.gu] 0 true⟩ ⟨1,.map (q.map fun p=>sK p.1) (q.map fun p=>T.agg p.2) false⟩ [] Al K rfl (by simp only[qA,seval,aso]) (by simp only[qA,seval]) (by simp only[qA,seval]) (by simp only[qA,seval]) (by simp only[qA,seval]) (by simp only[Z]) (by simp only[X]) (by simp only[mc]) (by unfold l7 jE ml;simp only[List.cons_append,List.nil_append];simp only[r])
 have asp:an f3 3= .ptr .L 3 1 0:=by rw[H 3 (by decide)];simp only[qA,seval,asn]
 have asq:an f3 8= .ptr .L 37 1 0:=by rw[H 8 (by decide)];simp only[qA,seval,aso]
 have ae7:an f3 14= .ptr .S 2 1 0:=by rw[H 14 (by decide)];simp only[qA,seval]
 clear H r
 simp only[qA,seval,asp,X,i9.lenI]
 have r:=Y
 unfold l7 jE ml at r
 simp only[List.cons_append,List.nil_append]at r
 clear K
 generalize K:DC pE 232 (.loop pz) _=D
 obtain⟨f4,l1,s2,rfl,⟨Z,X,mc,R1,Kl,c1,c2,c3,rfl,pR,pZ,Y⟩,H⟩:=ayg c F U c7 c9 i7 j7 i9 j9 lco tb I J N O V hU W (.b false) r1 r2 r3 ⟨1,.cells [I,J,N] 0 true⟩ ⟨1,.cells [.i .i64 c.rp,.i .i64 c.rl,.i .i64 c.cn,.i .i64 c.st,.i .i64 c.ly,.i .i64 c.nf,.i .i64 c.nt,F,O,U,V,hU,W,.i .i64 c.gu] 0 true⟩ ⟨1,.map (q.map fun p=>sK p.1) (q.map fun p=>T.agg p.2) false⟩ kn pR R _ _ _ pZ K rfl (by simp only[qA,seval,asq]) (by simp only[qA,seval,ae7]) (by simp only[qA,seval]) (by simp only[qA,seval]) (by simp only[qA,seval]) (by simp only[Z]) (by simp only[X]) (by simp only[mc]) (by unfold l7 jE ml;simp only[List.cons_append,List.nil_append];simp only[r])
 have ayl:an f4 3= .ptr .L 3 1 0:=by rw[H 3 (by decide)];simp only[qA,seval,asp]
 have asr:an f4 8= .ptr .L 37 1 0:=by rw[H 8 (by decide)];simp only[qA,seval,asq]
 have ass:an f4 14= .ptr .S 2 1 0:=by rw[H 14 (by decide)];simp only[qA,seval,ae7]
 clear H r
 simp only[qA,seval,ayl,X,i10.lenI]
 have r:=Y
 unfold l7 jE ml at r
 simp only[List.cons_append,List.nil_append]at r
 clear K
 generalize K:DC pE 232 (.loop ow) _=D
 obtain⟨f5,l1,s2,rfl,⟨Z,X,mc,R2,OA,cr,rfl,pR,pZ,Y⟩,H⟩:=ayh c F V c7 Fg i7 j7 i10 Oy lcr LV I J N O U hU W (.b false) r1 r2 r3 c1 c2 c3 ⟨1,.cells [I,J,N] 0 true⟩ ⟨1,.cells [.i .i64 c.rp,.i .i64 c.rl,.i .i64 c.cn,.i .i64 c.st,.i .i64 c.ly,.i .i64 c.nf,.i .i64 c.nt,F,O,U,V,hU,W,.i .i64 c.gu] 0 true⟩ ⟨1,.map (q.map fun p=>sK p.1) (q.map fun p=>T.agg p.2) false⟩ Kl pR R1 _ _ _ _ _ _ pZ K rfl (by simp only[qA,seval,asr]) (by simp only[qA,seval,ass]) (by simp only[qA,seval]) (by simp only[qA,seval]) (by simp only[qA,seval]) (by simp only[Z]) (by simp only[X]) (by simp only[mc]) (by unfold l7 jE ml;simp only[List.cons_append,List.nil_append];simp only[r])
 have aii:an f5 8= .ptr .L 37 1 0:=by rw[H 8 (by decide)];simp only[qA,seval,asr]
 clear H r
 have F1:=pZ.toW (by omega)
 obtain⟨n2,EU,aym,Ll⟩:=Wx (sz:=4) (v:=r2) (yy c 2 c.ru.length) F1 (by simp[m7])
 obtain⟨n1,A2,ayn,C1⟩:=Wx (sz:=3) (v:=c2) (Bz c 2 c.co.length) F1 (by simp[m7])
 have r:=Y
 unfold l7 jE ml at r
 simp only[List.cons_append,List.nil_append]at r
 simp only[qA,seval,kS,aii,r,Ll]
 have r:=Y
 unfold l7 jE ml at r
 simp only[List.cons_append,List.nil_append]at r
 clear K
 generalize K:DC pE 232 (.loop ou) _=D
 obtain⟨f6,l1,s2,rfl,⟨Z,X,mc,R3,nb,rfl,hw3,Y⟩,H⟩:=asg c F O U V hU W I J N r1 r2 r3 c1 c2 c3 cr _ OA false R2 _ _ _ _ _ _ _ F1 n2 EU aym ⟨1,.cells [I,J,N] 0 true⟩ ⟨1,.cells [.i .i64 c.rp,.i .i64 c.rl,.i .i64 c.cn,.i .i64 c.st,.i .i64 c.ly,.i .i64 c.nf,.i .i64 c.nt,F,O,U,V,hU,W,.i .i64 c.gu] 0 true⟩ ⟨1,.map (q.map fun p=>sK p.1) (q.map fun p=>T.agg p.2) false⟩ K rfl (by simp only[qA,seval,aii]) (by simp only[qA,seval]) (by simp only[qA,seval]) (by simp only[Z]) (by simp only[X]) (by simp only[mc]) (by unfold l7 jE ml;simp only[List.cons_append,List.nil_append];simp only[r])
 have aij:an f6 8= .ptr .L 37 1 0:=by rw[H 8 (by decide)];simp only[qA,seval,aii]
 clear H r
 have r:=Y
 unfold l7 jE ml at r
 simp only[List.cons_append,List.nil_append]at r
 simp only[qA,seval,kS,aij,r,C1]
 have r:=Y
 unfold l7 jE ml at r
 simp only[List.cons_append,List.nil_append]at r
 clear K
 generalize K:DC pE 232 (.loop ot) _=D
 obtain⟨f7,l1,s2,rfl,⟨Z,X,mc,R4,nb1,rfl,Za,Y⟩,H⟩:=ash c F O U V hU W I J N r1 r2 r3 c1 c2 c3 cr _ OA nb R3 _ _ _ _ _ _ _ hw3 n1 A2 ayn ⟨1,.cells [I,J,N] 0 true⟩ ⟨1,.cells [.i .i64 c.rp,.i .i64 c.rl,.i .i64 c.cn,.i .i64 c.st,.i .i64 c.ly,.i .i64 c.nf,.i .i64 c.nt,F,O,U,V,hU,W,.i .i64 c.gu] 0 true⟩ ⟨1,.map (q.map fun p=>sK p.1) (q.map fun p=>T.agg p.2) false⟩ K rfl (by simp only[qA,seval,aij]) (by simp only[qA,seval]) (by simp only[qA,seval]) (by simp only[Z]) (by simp only[X]) (by simp only[mc]) (by unfold l7 jE ml;simp only[List.cons_append,List.nil_append];simp only[r])
 have ayo:an f7 8= .ptr .L 37 1 0:=by rw[H 8 (by decide)];simp only[qA,seval,aij]
 clear H r
 have r:=Y
 unfold l7 jE ml at r
 simp only[List.cons_append,List.nil_append]at r
 simp only[qA,seval,ayo]
 obtain⟨x0,u0,y0,w0,z0⟩:=wL (sz:=4) (v:=r1) (yy c 1 c.ru.length) Za (by simp[m7]) F (je c.cs c.cs.length) OA
 obtain⟨x1,u1,y1,w1,z1'⟩:=wL (sz:=4) (v:=r2) (yy c 2 c.ru.length) Za (by simp[m7]) F (je c.cs c.cs.length) OA
 obtain⟨x2,u2,y2,w2,z2'⟩:=wL (sz:=4) (v:=r3) (yy c 3 c.ru.length) Za (by simp[m7]) F (je c.cs c.cs.length) OA
 obtain⟨x3,u3,y3,w3,z3⟩:=wL (sz:=3) (v:=c1) (Bz c 1 c.co.length) Za (by simp[m7]) F (je c.cs c.cs.length) OA
 obtain⟨x4,u4,y4,w4,z4⟩:=wL (sz:=3) (v:=c2) (Bz c 2 c.co.length) Za (by simp[m7]) F (je c.cs c.cs.length) OA
 obtain⟨x5,u5,y5,w5,z5⟩:=wL (sz:=3) (v:=c3) (Bz c 3 c.co.length) Za (by simp[m7]) F (je c.cs c.cs.length) OA
 obtain⟨x6,u6,y6,w6,z6⟩:=wL (sz:=3) (v:=cr) (Sr c c.cr.length) Za (by simp[m7]) F (je c.cs c.cs.length) OA
 rw[Wy r]
 simp only[qA,seval,mc,mpV,z1.froz1,b1.froz1,hfT,i7.froz1,i8.froz1,i9.froz1,i10.froz1,i11.froz1,i12.froz1,w0,w1,w2,w3,w4,w5,w6]
 refine⟨_,_,rfl, ?_, ?_,q,x0,x1,x2,x3,x4,x5,x6,nb1, ?_,hq.1,hq.2,z0,z1',z2',z3,z4,z5,z6⟩
 ·simp only[List.all_cons,List.all_nil,y0,y1,y2,y3,y4,y5,y6,Bool.and_true,Bool.true_and];rfl
 ·rfl
 ·rfl
theorem abQ(t:Tt)(c:Ct)(r D F H I J K hU N:T)(O:wM t r D F)(U:uc c H I J K hU N)(V:tW t≠0):
  ∃s,be pE 23 [.agg [r,D,F],.agg (jE c H I J K hU N)] []=some (.tup [.nilptr,.i .i64 (tW t)],s):=by
 have Y4:=Mu t r D F O
 obtain⟨⟨zc,W,z2⟩,⟨ac,X,b2⟩,⟨fc,Y,f2⟩⟩:=O
 obtain⟨⟨c7,i7,j7⟩,⟨c8,i8,j8⟩,⟨c9,i9,j9⟩,⟨Fg,Z,Oy⟩,⟨Sx,i11,Rn⟩,⟨Ze,i12,Wz⟩⟩:=U
 rw[gQ Zy (by simp[Zp])]
 unfold jE
 simp only[qA,seval,Zp,Y4,V,agi,W.froz1,X.froz1,Y.froz1]
 exact⟨_,rfl⟩
theorem nzo: ∀(l:List Zo) (seen:List (List Nat)),Ro seen l=0→(l.map Zo.nm).Nodup∧ ∀z∈l,z.nm∉seen
 | [],seen,_=>⟨List.nodup_nil,fun z i=>by cases i⟩
 |z::r,seen,h=>by
  rw[Ro]at h
  by_cases D:oj z=0
  ·rw[if_neg (by simp[D])]at h
   by_cases F:z.nm∈seen
   ·grind
   ·rw[if_neg F]at h
    obtain⟨H,I⟩:=nzo r _ h
    grind
  ·grind
theorem nap(i:List (List Nat)): ∀(l:List Ap) (seen:List (List Nat)),Rp i seen l=0→(l.map Ap.cd).Nodup∧ ∀z∈l,z.cd∉seen
 | [],seen,_=>⟨List.nodup_nil,fun z I=>by cases I⟩
 |z::r,seen,h=>by
  rw[Rp]at h
  by_cases J:WA z.cd=false
  ·grind
  ·rw[if_neg J]at h
   by_cases D:z.cd∈seen
   ·grind
   ·rw[if_neg D]at h
    by_cases F:z.zn∉i
    ·rw[if_pos F]at h;cases h
    ·rw[if_neg F]at h
     obtain⟨K,H⟩:=nap i r _ h
     refine⟨?_,fun y hy=> ?_⟩
     ·rw[List.map_cons,List.nodup_cons]
      refine⟨fun N=> ?_,K⟩
      obtain⟨y,hy,e⟩:=List.mem_map.1 N
      exact H y hy (by rw[e];simp)
     ·rcases List.mem_cons.1 hy with rfl|hy
      ·exact D
      ·exact fun hs=>H y hy (by simp[hs])
theorem nzn(i:List (List Nat)): ∀(l:List Ap) (seen:List (List Nat)),Rp i seen l=0→ ∀u∈l,u.zn∈i
 | [],seen,_,u,hu=>by cases hu
 |z::r,seen,h,u,hu=>by
  rw[Rp]at h
  by_cases F:WA z.cd=false
  ·grind
  ·rw[if_neg F]at h
   by_cases H:z.cd∈seen
   ·grind
   ·rw[if_neg H]at h
    by_cases D:z.zn∉i
    ·rw[if_pos D]at h;cases h
    ·rw[if_neg D]at h
     rcases List.mem_cons.1 hu with rfl|hu
     ·simpa using D
     ·exact nzn i r _ h u hu
theorem nzs: ∀(l:List Zo) (seen:List (List Nat)),Ro seen l=0→ ∀z∈l,oj z=0
 | [],seen,_,u,hu=>by cases hu
 |z::r,seen,h,u,hu=>by
  rw[Ro]at h
  by_cases i:oj z=0
  ·rw[if_neg (by simp[i])]at h
   by_cases D:z.nm∈seen
   ·grind
   ·rw[if_neg D]at h
    rcases List.mem_cons.1 hu with rfl|hu
    ·exact i
    ·exact nzs r _ h u hu
  ·grind
theorem nfl(i:List (List Nat)): ∀(l:List Fl) (p:Option Fl),Ig i p l=0→ ∀f∈l,Km i f=0
 | [],p,_,u,hu=>by cases hu
 |z::r,p,h,u,hu=>by
  unfold Ig at h
  by_cases F:Km i z=0
  ·rw[if_neg (by simp[F])]at h
   have D:Ig i (some z) r=0:=by
    grind
   rcases List.mem_cons.1 hu with rfl|hu
   ·exact F
   ·exact nfl i r _ D u hu
  ·grind
theorem BY(t:Tt)(h:tW t=0):(∀z∈t.zo,oj z=0)∧(∀u∈t.ap,u.zn∈t.zo.map Zo.nm)∧(∀f∈t.fl,Km (t.ap.map Ap.cd) f=0)∧t.fl.length≤200:=by
 unfold tW at h
 split at h
 ·cases h
 split at h
 ·cases h
 split at h
 ·cases h
 split at h
 ·grind
 split at h
 ·rename_i q;exact absurd h q
 rename_i a b c d e
 exact⟨nzs t.zo [] (by omega),nzn (t.zo.map Zo.nm) t.ap [] (by omega),nfl _ t.fl none h,by omega⟩
theorem WB(t:Tt)(h:tW t=0):(t.zo.map Zo.nm).Nodup∧t.zo.length≤100∧(t.ap.map Ap.cd).Nodup∧t.ap.length≤100:=by
 unfold tW at h
 split at h
 ·cases h
 split at h
 ·cases h
 split at h
 ·cases h
 split at h
 ·grind
 split at h
 ·rename_i q;exact absurd h q
 rename_i a b c d e
 exact⟨(nzo t.zo [] (by omega)).1,by omega,(nap (t.zo.map Zo.nm) t.ap [] (by omega)).1,by omega⟩
theorem WC: ∀(l:List Ru) (seen:List (Int×List Nat)),Ih seen l=0→ ∀u∈l,qL u.sc 1 3=true∧jo u.x=0
 | [],seen,_,u,hu=>by cases hu
 |v::l,seen,h,u,hu=>by
  rw[Ih]at h
  split at h
  ·cases h
  split at h
  ·cases h
  split at h
  ·grind
  rename_i a b c
  rcases List.mem_cons.1 hu with rfl|hu
  ·exact⟨by cases i:qL u.sc 1 3 with|true=>rfl|false=>exact absurd (.inl i) a,by omega⟩
  ·exact WC l _ h u hu
theorem WD: ∀(l:List Co),Kn l=0→ ∀u∈l,qL u.sc 1 3=true∧jo u.x=0
 | [],_,u,hu=>by cases hu
 |v::l,h,u,hu=>by
  rw[Kn]at h
  split at h
  ·cases h
  split at h
  ·grind
  rename_i a c
  rcases List.mem_cons.1 hu with rfl|hu
  ·grind
  ·exact WD l h u hu
theorem WE: ∀(l:List Ex),Ko l=0→ ∀u∈l,jo u=0
 | [],_,u,hu=>by cases hu
 |v::l,h,u,hu=>by
  rw[Ko]at h
  split at h
  ·grind
  rename_i c
  rcases List.mem_cons.1 hu with rfl|hu
  ·omega
  ·exact WE l h u hu
theorem WG{n:Int}(h:qL n 1 3=true):n=1∨n=2∨n=3:=by
 unfold qL at h
 simp only[Bool.and_eq_true,decide_eq_true_eq]at h
 omega
theorem Mv{l:Cs}{i:Int}{x:Ex}{w:Int}(D:jo x=0)(h:Lo l i x w=0): ∃k,x.ty (clk l (pn l l.length)) i=(k,0):=by
 have r:(Be l i x).2=0:=by
  unfold Lo at h
  split at h
  ·cases h
  ·exact h
 unfold Be at r
 rw[if_neg (by simp[D])]at r
 exact⟨(x.ty (clk l (pn l l.length)) i).1,Prod.ext rfl r⟩
theorem WH(cs:Cs): ∀(l:List Ru),Sy cs l=0→ ∀u∈l,Lo cs u.sc u.x 4=0
 | [],_,u,hu=>by cases hu
 |v::l,h,u,hu=>by
  rw[Sy]at h
  split at h
  ·rename_i q;exact absurd h q
  rename_i c
  rcases List.mem_cons.1 hu with rfl|hu
  ·omega
  ·exact WH cs l h u hu
theorem WI(cs:Cs): ∀(l:List Co),Sz cs l=0→ ∀u∈l,Lo cs u.sc u.x 1=0
 | [],_,u,hu=>by cases hu
 |v::l,h,u,hu=>by
  rw[Sz]at h
  split at h
  ·rename_i q;exact absurd h q
  rename_i c
  rcases List.mem_cons.1 hu with rfl|hu
  ·omega
  ·exact WI cs l h u hu
theorem WJ(cs:Cs): ∀(l:List Ex),WK cs l=0→ ∀u∈l,Lo cs 1 u 2=0
 | [],_,u,hu=>by cases hu
 |v::l,h,u,hu=>by
  rw[WK]at h
  split at h
  ·rename_i q;exact absurd h q
  rename_i c
  rcases List.mem_cons.1 hu with rfl|hu
  ·omega
  ·exact WJ cs l h u hu
theorem OB(c:Ct)(h:mi c=0):(∀u∈c.ru,Rj c.cs u.sc u.x)∧c.ru.length≤40∧(∀u∈c.co,Rj c.cs u.sc u.x)∧c.co.length≤40∧(∀u∈c.cr,Rj c.cs 1 u)∧c.cr.length≤40∧c.cs.length≤32:=by
 unfold mi at h
 split at h
 ·rename_i q;exact absurd h q
 split at h
 ·rename_i q;exact absurd h q
 split at h
 ·rename_i q;exact absurd h q
 split at h
 ·rename_i q;exact absurd h q
 rename_i g _ r o
 have g:mE c=0:=by omega
 unfold mE at g
 split at g
 ·cases g
 split at g
 ·cases g
 split at g
 ·rename_i q;exact absurd g q
 split at g
 ·rename_i q;exact absurd g q
 split at g
 ·rename_i q;exact absurd g q
 split at g
 ·rename_i q;exact absurd g q
 rename_i _ sz _ D F H
 have sz:pT c=true:=by simpa using sz
 unfold pT at sz
 simp only[Bool.and_eq_true,decide_eq_true_eq]at sz
 refine⟨fun u i=> ?_,sz.2.1,fun u i=> ?_,by omega,fun u i=> ?_,by omega,sz.1⟩
 ·obtain⟨w,v⟩:=WC c.ru [] (by omega) u i
  exact⟨WG w,v,Mv v (WH c.cs c.ru (by omega) u i)⟩
 ·obtain⟨w,v⟩:=WD c.co (by omega) u i
  exact⟨WG w,v,Mv v (WI c.cs c.co (by omega) u i)⟩
 ·have v:=WE c.cr (by omega) u i
  exact⟨.inl rfl,v,Mv v (WJ c.cs c.cr h u i)⟩
theorem aik(t:Tt)(c:Ct)(r D F H I J K hU N:T)(V:wM t r D F)(W:uc c H I J K hU N)(X:An c)(U:tW t=0)(hc:mi c=0):
  ∃s O,be pE 23 [.agg [r,D,F],.agg (jE c H I J K hU N)] []=some (.tup [.vp (r::D::F::(jE c H I J K hU N++O)),.i .i64 0],s)∧O.all froz1=true∧O.length=11∧Kk t c O:=by
 obtain⟨Y,Z,p3,p4⟩:=WB t U
 obtain⟨q1,q2,q3,q4,q5,q6,q7⟩:=OB c hc
 exact asi t c r D F H I J K hU N V W X U hc Y Z p3 p4 (BY t U).2.1 q1 q2 q3 q4 q5 q6 q7
end Go.Proofs.YtcpceiclnbmgiaaGreat
