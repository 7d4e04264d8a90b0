/- Walks of functions of the program and of the reference, and their plain laws, part 14. Conditions: the theorems' own. -/
import Derived.Test.YtbdfboojnfinkaaGreatM13
import Derived.KernelRfl
set_option maxRecDepth 100000
set_option linter.unusedSimpArgs false
set_option linter.unusedVariables false
set_option maxRecDepth 1000000
set_option maxHeartbeats 16000000
namespace Go.Proofs.YtbdfboojnfinkaaGreat
open Go Go.Ev
theorem J7.ty0{l:Cs}{x:Ex}(h:J7 l 1 x):x.nodes≤100000∧x.wf=true∧ ∃k,x.ty (Nm (Gr l) 1) 0=(k,0):=by
 obtain⟨_,hv,k,D⟩:=h
 have:=(nL hv).1
 exact⟨by omega,mM hv,k,by rw[←Vw];exact D⟩
section
variable(c:Ct)(a7 a8 a9 iv iw iy vT rM:T)(A:List Int)(hC:tZ c a7 a8 a9 iv iw iy)(hS:yc c)(hc:l0 c=0)(hv:IsSl vT c.cs.length (ints (tX c.cs c.cs.length)))(hA:LB A)(hat:IsSl rM 11 (mN (kE A)))
include hC hc hv hA hat
theorem af5{x:Ex}(D:J7 c.cs 1 x){cs:List T}(h:lv x cs):hZ pE 76 [vT,a7,.i .i64 1,rM,.agg cs] []=some (.i .i64 (Vj c.cs A x),[]):=by
 obtain⟨⟨E,F,H⟩,_⟩:=hC
 obtain⟨I,J,k,K⟩:=D.ty0
 have:=(yg c hc).2.2.2.2.2.2
 exact af4 c.cs a7 vT rM E A F H (kI (by omega)) hv hA hat x k cs h I J K
end
theorem ctZ{c:Ct}{a7 a8 a9 iv iw iy:T}(hC:tZ c a7 a8 a9 iv iw iy):(froz1 a7=true∧froz1 a8=true∧froz1 a9=true∧froz1 iv=true∧froz1 iw=true∧froz1 iy=true)∧cellsOf a7= [a7]∧cellsOf a8= [a8]∧cellsOf a9= [a9]∧cellsOf iv= [iv]∧cellsOf iw= [iw]∧cellsOf iy= [iy]∧froz a7=true:=by
 obtain⟨⟨_,F,_⟩,⟨_,H,_⟩,⟨_,I,_⟩,⟨_,h,_⟩,⟨_,D,_⟩,⟨_,E,_⟩⟩:=hC
 exact⟨⟨F.froz1,H.froz1,I.froz1,h.froz1,D.froz1,E.froz1⟩,F.cells,H.cells,I.cells,h.cells,D.cells,E.cells,F.froz⟩
section
variable(c:Ct)(a7 a8 a9 iv iw iy rM:T)(A:List Int)(hC:tZ c a7 a8 a9 iv iw iy)(hS:yc c)(hc:l0 c=0)(hA:LB A)(hat:IsSl rM 11 (mN (kE A)))
include hC hS hc
theorem ZK:hZ pE 77 [a7] []=some (kz c.cs.length (ints (tX c.cs c.cs.length)),[])∧IsSl (kz c.cs.length (ints (tX c.cs c.cs.length))) c.cs.length (ints (tX c.cs c.cs.length)):=by
 obtain⟨⟨D,E,F⟩,_⟩:=hC
 have:=(yg c hc).2.2.2.2.2.2
 refine⟨P3 c.cs a7 D E F (kI (by omega)) hS.s7.1,mg fun h=> ?_⟩
 grind [ints,List.length_eq_zero_iff.1,m8]
include hA hat
theorem LD:hZ pE 46 [.agg (jf c a7 a8 a9 iv iw iy),rM] []=some (.i .i64 (pJ A (PV c)),[]):=by
 obtain⟨X,hv⟩:=ZK c a7 a8 a9 iv iw iy hC hS hc
 have Y:=ctZ hC
 have D:=hat.froz
 have I:=hv.froz
 have J:=hC
 obtain⟨⟨c7,i7,j7⟩,⟨c8,i8,j8⟩,⟨c9,i9,j9⟩,⟨vU,E,As⟩,⟨wT,Z,yF⟩,⟨yG,i12,DO⟩⟩:=J
 have F:=E.lenI
 have zC:=(yg c hc).2.2.2.2.1
 rw[im ak0 (by simp[c46])]
 unfold PV PH
 rw[List.take_length]
 by_cases O:c.cr= []
 ·rw[O]at F ⊢
  have F:lenI iv=some (.i .i64 0):=F
  have U:(kE A).length=11:=by unfold kE;rw[List.length_zip,hA.1];rfl
  have K:(kE A).map Prod.fst=iK:=by unfold kE;exact List.map_fst_zip (by rw[hA.1];exact Nat.le_refl _)
  have H:=Gw [98,108,111,99,107] (kE A) rM (by rw[U];exact hat) (by omega)
  rw[K,show ixA [98,108,111,99,107] iK 0=3 by decide]at H
  obtain⟨rr,h⟩:=Gv (l:=kE A) (v:=rM) (by rw[U];exact hat) 3 (by omega)
  have OH:(kE A)[3].2=A.getD 3 0:=by
   grind [kE]
  rw[OH]at h
  have h: ∀kk,pv rM (.i kk 3) 2=_:=h
  unfold pJ jf
  simp only[List.map_nil]
  simp only[qA,seval,c46,F,H,h,D,adN]
 ·obtain⟨x,l,N⟩: ∃x l,c.cr=x::l:=List.exists_cons_of_ne_nil O
  have V:0<c.cr.length:=by rw[N];simp
  obtain⟨b,cb,rr,h,kg,tK,hb⟩:=nJ E As 0 V
  have W:=zC _ (List.getElem_mem V)
  have iu:=af5 c a7 a8 a9 iv iw iy _ rM A hC hc hv hA hat W hb
  have hcv:=(ZG hA W).2.1
  have h: ∀kk,pv iv (.i kk 0) 4=_:=h
  have lM: ¬(c.cr.length:Int)=0:=by omega
  have e:pJ A (c.cr.map fun u=>([],comp (mZ c.cs) 1 u))=Vj c.cs A c.cr[0]:=by
   grind [pJ]
  rw[e]
  generalize Vj c.cs A c.cr[0]=q at*
  generalize c.cr[0]=y at*
  generalize kz c.cs.length (ints (tX c.cs c.cs.length))=vT at*
  unfold jf
  simp only[qA,seval,iY,iC,c46,F,lM,X,h,iu,Y,D,I,kg.froz1,atv,atw,adZ,att]
end
def dE(t:Tt)(c:Ct)(d:List (Int×Bool)):Int:=if mz t c≠0 then mz t c else sn c t.fl d
section
variable(t:Tt)(c:Ct)(zT aT fT a7 a8 a9 iv iw iy:T)(hT:sI t zT aT fT)(hC:tZ c a7 a8 a9 iv iw iy)(hN:Qy c)(hL: ∀f∈t.fl,f.nu.length≤mJ)(d:List (Int×Bool))(dT:T)(hd:CJ d dT)(hlen:d.length≤1000)
include hT hC hN hL hd hlen
theorem Vx(h:dE t c d=0):rL t=0∧l0 c=0∧yc c∧1≤d.length∧d.length≤6∧(∀k∈d,yh t.fl.length k.1=true):=by
 have _:=hL;have _:=hd;have _:=hlen
 unfold dE at h
 by_cases D:mz t c=0
 ·rw[if_neg (by simp[D])]at h
  obtain⟨E,hc⟩:=Ln t c zT aT fT a7 a8 a9 iv iw iy hT hC hN D
  obtain⟨F,H,I,_⟩:=Gt h
  exact⟨E,hc,hN.sm (EI c a7 a8 a9 iv iw iy hC hc),F,H,I⟩
 ·grind
end
def Vy(A:List Int)(h:RL)(m:List Nat):Int:=if m= [99,114,101,100,105,116]then pJ A h else if m= [100,117,116,105,101,115]then 1 else A.getD (ixA m iK 0).toNat 0
def om(A:List Int)(c:Ct):List Int:=c.li.map fun u=>Vy A (PV c) u.me
theorem Nr: ∀(l:List Li) (seen:List (List Nat)),Jp seen l=0→ ∀u∈l,GA u.me≠0
 | [],_,_,u,D=>by cases D
 |x::l,seen,h,u,D=>by
  rw[Jp]at h
  have:=Nr l (seen++ [x.nm])
  grind
theorem Ns{c:Ct}(h:l0 c=0):(∀u∈c.li,GA u.me≠0)∧c.li.length≤16:=by
 have D:mK c=0:=by unfold l0 at h;grind
 unfold mK at D
 have E:LF c=0:=by grind
 have F:Jp [] c.li=0:=by unfold LF at E;grind
 refine⟨Nr _ _ F, ?_⟩
 have hs:pI c=true:=by grind
 unfold pI at hs
 simp only[Bool.and_eq_true,decide_eq_true_eq]at hs
 omega
theorem Vz{m:List Nat}(h:GA m≠0)(D:m≠ [99,114,101,100,105,116])(E:m≠ [100,117,116,105,101,115]): ∃j:Nat,ixA m iK 0=(j:Int)∧j<11:=by
 have:m= [98,108,111,99,107]∨m= [115,112,97,110]∨m= [110,105,103,104,116]∨m= [108,101,103,115]∨m= [104,101,97,100,115]:=by unfold GA at h;grind
 rcases this with rfl|rfl|rfl|rfl|rfl
 ·exact⟨3,by decide,by decide⟩
 ·exact⟨4,by decide,by decide⟩
 ·exact⟨5,by decide,by decide⟩
 ·exact⟨0,by decide,by decide⟩
 ·exact⟨1,by decide,by decide⟩
theorem af7(s:List Nat):hZ pE 40 [.sl (strs iK) 11 true,.s s] []=some (.i .i64 (ixA s iK 0),[]):=by
 have D:IsSl (.sl (strs iK) 11 true) iK.length (iK.map T.s):= .inr ⟨true,rfl⟩
 have E:=D.lenI
 have hL:=fun fr lh sh F H I J=>acC s iK _ D (by decide) _ rfl _ rfl fr lh sh F H I J
 have Gq:=zL s iK 0
 generalize T.sl (strs iK) 11 true=a at*
 rw[im Xa (by simp[WY])]
 generalize ixA s iK 0=v at*
 by_cases h:v<0
 ·have e:=Gq h
  subst e
  simp only[qA,seval,WY,hL,E]
 ·simp only[h,if_false,not_false_eq_true,forall_const]at hL
  simp only[qA,seval,WY,hL,E]
theorem zO{lh:iz ib}{v:T}{k sz n d:Nat}{cs:List T}(h:iP lh v k sz n cs)(hd:n=0→k=d):uC d v= [(.L,k)]:=by
 rcases h with⟨h0,rfl,_⟩|⟨g,wm,rfl,_⟩
 ·rw[hd h0];rfl
 ·rfl
theorem A7{lh:iz ib}{sh:List ib}{v:T}{k n sz bytes d:Nat}{cs:List T}(h:iP lh v k sz n cs)(hd:n=0→k=d)(D:List T)(H:D.length=sz)(I:(n+1)*bytes≤roomy)(ex:Bool):
  appW lh sh d sz bytes v (.sl D 1 ex)=some (J4 lh sh k sz bytes v (.sl D 1 ex),Cy lh sh k sz bytes v (.sl D 1 ex))∧iP (Cy lh sh k sz bytes v (.sl D 1 ex)) (J4 lh sh k sz bytes v (.sl D 1 ex)) k sz (n+1) (cs++D)∧(∀j,j≠k→a6 (Cy lh sh k sz bytes v (.sl D 1 ex)) j=a6 lh j)∧cellsOf (J4 lh sh k sz bytes v (.sl D 1 ex))= [J4 lh sh k sz bytes v (.sl D 1 ex)]∧noTup (J4 lh sh k sz bytes v (.sl D 1 ex))=true:=by
 have E:=uI (sh:=sh) h D H I ex
 refine⟨?_,E.2.1,E.2.2,E.2.1.cells,E.2.1.noTup⟩
 rw[←E.1]
 by_cases F:n=0
 ·rw[hd F]
 ·rcases h with⟨h,_⟩|⟨g,wm,rfl,_⟩
  ·exact absurd h F
  ·unfold appW
   rw[FZ,if_pos (by omega),Option.bind_some,ql,Option.bind_some,ql]
section
variable(c:Ct)(zT aT fT a7 a8 a9 iv iw iy:T)(vs:List T)(A:List Int)(hC:tZ c a7 a8 a9 iv iw iy)(hc:l0 c=0)(hA:A.length=11)
 (XE:hZ pE 39 [pg c zT aT fT a7 a8 a9 iv iw iy vs,.sl (ints A) 11 false] []=some (.i .i64 (pJ A (PV c)),[]))
include hC hc hA XE
theorem avG(x y:Int)(g:Nat)(E4:ib)(fr:Fr)(lh:iz ib)(sh:List ib)(K:an fr 0=pg c zT aT fT a7 a8 a9 iv iw iy vs)(U:an fr 5= .sl (ints A) 11 false)(W:an fr 6= .sl (strs iK) 11 true)(X:an fr 7= .ptr .L 7 g 0)(ER:an fr 22=iw)(K8:an fr 23= .i .i64 (c.li.length:Int))(PF:an fr 24= .i .i64 0)(H:a6 lh 7=⟨g,.cells [.i .i64 x,.i .i64 y,.nilsl] 0 true⟩)(I:a6 lh 4=E4):
  Lp pE 61 sJ fr lh sh (.ext 0) fun f l s=>s=sh∧a6 l 4=E4∧ ∃k v,(k=40∨k=50∨k=57)∧iP l v k 1 c.li.length (ints (om A c))∧a6 l 7=⟨g,.cells [.i .i64 x,.i .i64 y,v] 0 true⟩:=by
 obtain⟨Y,avI⟩:=Ns hc
 obtain⟨_,_,_,_,⟨wT,Z,yF⟩,_⟩:=id hC
 refine px Hl (fun n f l s=>an f 24= .i .i64 (n:Int)∧s=sh∧a6 l 4=E4∧ ∃k v,(k=40∨k=50∨k=57)∧iP l v k 1 n (ints ((om A c).take n))∧a6 l 7=⟨g,.cells [.i .i64 x,.i .i64 y,v] 0 true⟩) c.li.length ⟨PF,rfl,I,40,.nilsl,.inl rfl,iP.nil,H⟩ ?_ ?_
 ·rintro n f l _ hk N ⟨F,rfl,I,k0,v,DV,D,H⟩
  have iR:(n:Int)<c.li.length:=by omega
  have hw:=iM (k:=n) (by omega)
  obtain⟨cc,r,iS,rfl,_⟩:=oa (k:=4) WU.len Z yF n hk
  have hm:=Y _ (List.getElem_mem hk)
  have pD:ints ((om A c).take (n+1))=ints ((om A c).take n)++ [.i .i64 (Vy A (PV c) c.li[n].me)]:=by
   have hk2:n<(om A c).length:=by unfold om;simpa using hk
   rw[List.take_succ_eq_append_getElem hk2]
   simp[ints,om]
  have hD: ∀d,(d=40∨d=50∨d=57)→ ∃k,(k=40∨k=50∨k=57)∧iP l v k 1 n (ints ((om A c).take n))∧(n=0→k=d):=by
   intro d hd
   by_cases K:n=0
   ·rcases D with⟨_,rfl,e⟩|⟨_,_,_,_,_,hp⟩
    ·exact⟨d,hd,.inl ⟨K,rfl,e⟩,fun _=>rfl⟩
    ·omega
   ·exact⟨k0,DV,D,fun h=>absurd h K⟩
  clear D DV
  obtain⟨G,hG⟩: ∃G,(a6 l 9).g+1=G:=⟨_,rfl⟩
  generalize c.li[n]=u at*
  have lS:(n+1)*8≤roomy:=by unfold roomy;omega
  have Nl:=zF c zT aT fT a7 a8 a9 iv iw iy vs
  have E:=fun(k d:Nat) (D:iP l v k 1 n (ints ((om A c).take n))) (WV:n=0→k=d) (x:T) (iN:iz ib) (jb:List ib) (e:a6 iN k=a6 l k)=>A7 (sh:=jb) (D.congr e) WV [x] rfl lS true
  rw[pD]
  clear pD
  unfold Vy
  have J5:=af7 u.me
  have hj:=Vz hm
  have O: ∀j:Nat,j<11→ ∃r,∀kk,pv (.sl (ints A) 11 false) (.i kk (j:Int)) 1=some (.vp (.i .i64 (A.getD j 0)::r)):=fun j hj=>by
   refine⟨(ints A).drop (j+1),fun kk=> ?_⟩
   have hat:IsSl (.sl (ints A) 11 false) A.length (ints A):= .inr ⟨false,by rw[hA]⟩
   have:=hat.ia (sz:=1) (k:=j) (kk:=kk) (by rw[lB];omega) (by omega)
   grind [oG,List.getElem?_eq_getElem]
  have J:froz (T.sl (ints A) 11 false)=true:=rfl
  have hsz:froz (T.sl (strs iK) 11 true)=true:=rfl
  generalize pg c zT aT fT a7 a8 a9 iv iw iy vs=V at*
  generalize T.sl (ints A) 11 false=aT at*
  generalize T.sl (strs iK) 11 true=sT at*
  by_cases P4:u.me= [99,114,101,100,105,116]
  ·obtain⟨k,ES,D,WV⟩:=hD 50 (by simp)
   rw[if_pos P4]
   have E:=E k 50 D WV
   have Jk:=zO D WV
   have AO:=D.notS
   have VA:=ES
   generalize pJ A (PV c)=x at*
   rcases ES with rfl|rfl|rfl
   all_goals simp(maxDischargeDepth:=6) only[qA,seval,gd,repl,iY,mX,kV,iC,sJ,N,K,U,W,X,ER,K8,F,I,H,iR,hw,iS,hG,P4,XE,E,Jk,AO,Nl,J,as4,as5]
   all_goals exact⟨_,_,VA,by rw[lz (by decide)];exact(E _ _ _ (by simp only[qA,seval])).2.1,rfl⟩
  ·by_cases G6:u.me= [100,117,116,105,101,115]
   ·obtain⟨k,ES,D,WV⟩:=hD 57 (by simp)
    rw[if_neg P4,if_pos G6]
    have lM: ¬([100,117,116,105,101,115]:List Nat)= [99,114,101,100,105,116]:=by decide
    have E:=E k 57 D WV
    have Jk:=zO D WV
    have AO:=D.notS
    have VA:=ES
    rcases ES with rfl|rfl|rfl
    all_goals simp(maxDischargeDepth:=6) only[qA,seval,gd,repl,iY,mX,kV,iC,sJ,N,K,U,W,X,ER,K8,F,I,H,iR,hw,iS,hG,G6,lM,E,Jk,AO,Nl,J]
    all_goals exact⟨_,_,VA,by rw[lz (by decide)];exact(E _ _ _ (by simp only[qA,seval])).2.1,rfl⟩
   ·obtain⟨k,ES,D,WV⟩:=hD 40 (by simp)
    obtain⟨j,xG,hj2⟩:=hj P4 G6
    obtain⟨r2,hv⟩:=O j hj2
    rw[if_neg P4,if_neg G6,xG,Int.toNat_natCast]
    rw[xG]at J5
    have E:=E k 40 D WV
    have Jk:=zO D WV
    have AO:=D.notS
    have VA:=ES
    generalize A.getD j 0=x at*
    rcases ES with rfl|rfl|rfl
    all_goals simp(maxDischargeDepth:=6) only[qA,seval,gd,repl,iY,mX,kV,iC,sJ,N,K,U,W,X,ER,K8,F,I,H,iR,hw,iS,hG,P4,G6,J5,hv,E,Jk,AO,Nl,J,hsz,akU,as6]
    all_goals exact⟨_,_,VA,by rw[lz (by decide)];exact(E _ _ _ (by simp only[qA,seval])).2.1,rfl⟩
 ·rintro f l _ N ⟨F,rfl,I,k0,v,DV,D,H⟩
  rw[List.take_of_length_le (by unfold om;simp)]at D
  simp only[qA,seval,gd,sJ,N,F,K8,I,Int.lt_irrefl]
  exact⟨k0,v,DV,D,H⟩
theorem avJ(x y:Int)(g:Nat)(E4:ib)(fr:Fr)(lh:iz ib)(sh:List ib)(F:an fr 0=pg c zT aT fT a7 a8 a9 iv iw iy vs)(H:an fr 5= .sl (ints A) 11 false)(I:an fr 6= .sl (strs iK) 11 true)(J:an fr 7= .ptr .L 7 g 0)(ER:an fr 22=iw)(K8:an fr 23= .i .i64 (c.li.length:Int))(PF:an fr 24= .i .i64 0)(K:a6 lh 7=⟨g,.cells [.i .i64 x,.i .i64 y,.nilsl] 0 true⟩)(N:a6 lh 4=E4):
  Lp pE 61 sJ fr lh sh (.ext 0) fun f l s=>s=sh∧a6 l 4=E4∧a6 l 7=⟨g,.cells [.i .i64 x,.i .i64 y,mh l 7 2] 0 true⟩∧cellsOf (mh l 7 2)= [mh l 7 2]∧noTup (mh l 7 2)=true∧ ∀e m sh,fzW m (mr l 4 e) sh false (mh l 7 2)=some (kz c.li.length (ints (om A c)),WL (mr l 4 e) (mh l 7 2)):=by
 obtain⟨h,O,U,k,v,V,D,E⟩:=avG c zT aT fT a7 a8 a9 iv iw iy vs A hC hc hA XE x y g E4 fr lh sh F H I J ER K8 PF K N
 refine⟨h,O,U, ?_⟩
 have e:mh (lZ pE 61 sJ fr lh sh) 7 2=v:=vu E
 rw[e]
 refine⟨E,D.cells,D.noTup,fun e m sh=>iP.fzW (D.congr (jg _ _ (by omega)))⟩
end
section
variable(t:Tt)(c:Ct)(zT aT fT a7 a8 a9 iv iw iy:T)(vs:List T)(hT:sI t zT aT fT)(hC:tZ c a7 a8 a9 iv iw iy)(hN:Qy c)(d:List (Int×Bool))(dT:T)(hd:CJ d dT)
include hT hC hd
theorem af8(hlen:d.length≤100)(X:Gg t c vs)(H:rL t=0)(hc:l0 c=0)(I:1≤d.length)(h: ∀k∈d,yh t.fl.length k.1=true):hZ pE 19 [pg c zT aT fT a7 a8 a9 iv iw iy vs,dT] []=some (.agg [.i .i64 (rj c (kb t.fl d 0)),.i .i64 (rk c (kb t.fl d (d.length-1))),kz c.li.length (ints (om (k9 t c d) c))],[]):=by
 obtain⟨s1,J⟩:=af1 t c zT aT fT a7 a8 a9 iv iw iy vs hT X H hc d dT hd I hlen h
 have hA:=CZ (t:=t) (c:=c) H hc I hlen h
 have K:=PW t c zT aT fT a7 a8 a9 iv iw iy vs hT H hc d dT hd I hlen h
 obtain⟨g1,g2,g3,g4,g5⟩:=ao3 (t:=t) hc hA
 have hat:IsSl (.sl (ints (k9 t c d)) 11 false) (k9 t c d).length (ints (k9 t c d)):= .inr ⟨false,by rw[hA.1]⟩
 obtain⟨q,Y,Z,r3,c1,c2,c3,cr,nb,D,_,_,ro1,_,_,ko1,_,_,N⟩:=X
 have D:vs=vsL (.vm (q.map fun p=>sK p.1) (q.map fun p=>T.agg p.2)) Y Z r3 c1 c2 c3 cr (.b nb):=D
 have hr:=Vn c zT aT fT a7 a8 a9 iv iw iy (.vm (q.map fun p=>sK p.1) (q.map fun p=>T.agg p.2)) Y Z r3 c1 c2 c3 cr (.b nb) _ _ hat (PV c) N g3 hA.1
 rw[←D]at hr
 have hL:=fun x y g E4 fr lh sh h0 h5 h6 h7 ER K8 PF o7 o4=>avJ c zT aT fT a7 a8 a9 iv iw iy vs _ hC hc hA.1 hr x y g E4 fr lh sh h0 h5 h6 h7 ER K8 PF o7 o4
 have Nl:=zF c zT aT fT a7 a8 a9 iv iw iy vs
 obtain⟨_,_,_,_,⟨wT,O,yF⟩,_⟩:=id hC
 have pX:=O.lenI
 have U:=hd.sl.froz
 have F:pg c zT aT fT a7 a8 a9 iv iw iy vs= .vp (zT::aT::fT::(jf c a7 a8 a9 iv iw iy++vs)):=rfl
 have E: ∃r,zT::aT::fT::(jf c a7 a8 a9 iv iw iy++vs)= [zT,aT,fT,.i .i64 c.rp,.i .i64 c.rl,.i .i64 c.cn,.i .i64 c.st,.i .i64 c.ly,.i .i64 c.nf,.i .i64 c.nt,a7,a8,a9,iv]++iw::r:=⟨_,rfl⟩
 obtain⟨rr,E⟩:=E
 rw[E]at F
 have hL:=hL (rj c (kb t.fl d 0)) (rk c (kb t.fl d (d.length-1))) 1 ⟨1,.cells [.i .i64 0,.i .i64 0,.nilsl] 0 true⟩
 have W:=ao9
 have hsz:froz (T.sl (strs iK) 11 true)=true:=rfl
 have haz:froz (T.sl (ints (k9 t c d)) 11 false)=true:=rfl
 generalize pg c zT aT fT a7 a8 a9 iv iw iy vs=V at*
 generalize rj c (kb t.fl d 0)=x1 at*
 generalize rk c (kb t.fl d (d.length-1))=x2 at*
 generalize T.sl (ints (k9 t c d)) 11 false=aV at*
 generalize T.sl (strs iK) 11 true=sT at*
 subst F
 simp only[List.cons_append,List.nil_append]at*
 rw[im akD (by simp[c19])]
 simp(maxDischargeDepth:=6) only[qA,zB,seval,c19,Hl,J,W,K,pX,hL,Nl,U,as1,RP,as3]
end
def AP(t:Tt)(c:Ct)(d:List (Int×Bool)):List Int:=if dE t c d≠0 then []else om (k9 t c d) c
def ZL(t:Tt)(c:Ct)(d:List (Int×Bool)):Int:=if dE t c d≠0 then 0 else rj c (kb t.fl d 0)
def ZM(t:Tt)(c:Ct)(d:List (Int×Bool)):Int:=if dE t c d≠0 then 0 else rk c (kb t.fl d (d.length-1))
theorem Nt(n:Nat)(cs:List T):froz1 (kz n cs)=true:=by unfold kz;split <;> rfl
theorem Nu(n:Nat)(cs:List T):cellsOf (kz n cs)= [kz n cs]:=by unfold kz;split <;> rfl
theorem Nv(n:Nat)(cs:List T):noTup (kz n cs)=true:=by unfold kz;split <;> rfl
theorem C1(A:List Int)(c:Ct):(om A c).length=c.li.length:=by unfold om;simp
section
variable(t:Tt)(c:Ct)(zT aT fT a7 a8 a9 iv iw iy:T)(hT:sI t zT aT fT)(hC:tZ c a7 a8 a9 iv iw iy)(hN:Qy c)(d:List (Int×Bool))(dT:T)(hd:CJ d dT)(hlen:d.length≤100)
include hT hC hN hd hlen
theorem aga: ∃s,hZ pE 7 [.agg [zT,aT,fT],.agg (jf c a7 a8 a9 iv iw iy),dT] []=some (.tup [.agg [.i .i64 (ZL t c d),.i .i64 (ZM t c d),kz (AP t c d).length (ints (AP t c d))],.i .i64 (dE t c d)],s):=by
 have J:=WQ t c zT aT fT a7 a8 a9 iv iw iy hT hC
 have E:=hd.sl.froz
 unfold ZL ZM AP
 rw[im fn7 (by simp[c7])]
 by_cases h:mz t c=0
 ·obtain⟨Z,vs,H,K⟩:=aoK t c zT aT fT a7 a8 a9 iv iw iy hT hC hN h
  obtain⟨N,hc⟩:=Ln t c zT aT fT a7 a8 a9 iv iw iy hT hC hN h
  have D:=afL t c zT aT fT a7 a8 a9 iv iw iy vs hT d dT hd (by omega)
  have Nl:=zF c zT aT fT a7 a8 a9 iv iw iy vs
  have I:dE t c d=sn c t.fl d:=by unfold dE;rw[if_neg (by simp[h])]
  by_cases hs:sn c t.fl d=0
  ·obtain⟨O,h6,F,_⟩:=Gt hs
   have U:=af8 t c zT aT fT a7 a8 a9 iv iw iy vs hT hC d dT hd hlen K N hc O F
   rw[I,if_neg (by simp[hs]),if_neg (by simp[hs]),if_neg (by simp[hs]),C1]
   rw[hs]at D ⊢
   have W:=Nt c.li.length (ints (om (k9 t c d) c))
   have X:=Nu c.li.length (ints (om (k9 t c d) c))
   have Y:=Nv c.li.length (ints (om (k9 t c d) c))
   generalize kz c.li.length (ints (om (k9 t c d) c))=o at*
   generalize pg c zT aT fT a7 a8 a9 iv iw iy vs=V at*
   unfold jf at*
   simp only[qA,seval,c7,H,D,U,Nl,J,E,W,X,Y,adA,akC,asQ]
   exact⟨_,rfl⟩
  ·rw[I,if_pos hs,if_pos hs,if_pos hs]
   generalize sn c t.fl d=e at*
   generalize pg c zT aT fT a7 a8 a9 iv iw iy vs=V at*
   unfold jf at*
   simp only[qA,seval,c7,H,D,hs,Nl,J,E,adA,akC]
   exact⟨_,rfl⟩
 ·obtain⟨s,H⟩:=aoL t c zT aT fT a7 a8 a9 iv iw iy hT hC hN h
  have I:dE t c d=mz t c:=by unfold dE;rw[if_pos h]
  rw[I,if_pos h,if_pos h,if_pos h]
  generalize mz t c=e at*
  unfold jf at*
  simp only[qA,seval,c7,H,h,J,adA]
  exact⟨_,rfl⟩
theorem agb(hL: ∀f∈t.fl,f.nu.length≤mJ)(D:dE t c d=0):hZ pE 22 [.agg [zT,aT,fT],.agg (jf c a7 a8 a9 iv iw iy),dT] []=some (.tup [.i .i64 (pJ (k9 t c d) (PV c)),.i .i64 0],[]):=by
 have H:=WQ t c zT aT fT a7 a8 a9 iv iw iy hT hC
 have E:=hd.sl.froz
 obtain⟨w,h,F,O⟩:=ZI t c zT aT fT a7 a8 a9 iv iw iy hT hC hN hL d dT hd (by omega)
 rw[show(if mz t c≠0 then mz t c else sn c t.fl d)=dE t c d from rfl]at h F
 obtain⟨I,hc,hS,J,U,K⟩:=Vx t c zT aT fT a7 a8 a9 iv iw iy hT hC hN hL d dT hd (by omega) D
 have hA:=CZ (t:=t) (c:=c) I hc J (by omega) K
 have N:=LD c a7 a8 a9 iv iw iy (.sl (mN (kE (k9 t c d))) 11 false) (k9 t c d) hC hS hc hA (.inr ⟨false,rfl⟩)
 rw[F D]at h
 rw[D]at h
 generalize pJ (k9 t c d) (PV c)=q2 at*
 generalize mN (kE (k9 t c d))=AC at*
 unfold jf at*
 rw[im akH (by simp[c22])]
 simp only[qA,seval,c22,h,N,H,E,ata,atb]
end
theorem ZN(A:List Int)(hA:A.length=11)(s:List Nat)(j:Nat)(O:j<11)(J:ixA s iK 0=(j:Int)):hZ pE 23 [.sl (mN (kE A)) 11 false,.s s] []=some (.tup [.i .i64 (A.getD j 0),.i .i64 0],[]):=by
 have K:(kE A).length=11:=by unfold kE;rw[List.length_zip,hA];rfl
 have D:(kE A).map Prod.fst=iK:=by unfold kE;exact List.map_fst_zip (by rw[hA];exact Nat.le_refl _)
 have I:IsSl (.sl (mN (kE A)) 11 false) (kE A).length (mN (kE A)):=by rw[K];exact .inr ⟨false,rfl⟩
 have h:=Gw s (kE A) _ I (by omega)
 rw[D,J]at h
 have E: ∃n r,∀kk,pv (.sl (mN (kE A)) 11 false) (.i kk (j:Int)) 2=some (.vp (.s n:: .i .i64 (A.getD j 0)::r)):=by
  match A,hA with
  | [U,V,W,X,Y,Z,b6,b7,b8,b9,N],_=>
    have:j=0∨j=1∨j=2∨j=3∨j=4∨j=5∨j=6∨j=7∨j=8∨j=9∨j=10:=by omega
    rcases this with rfl|rfl|rfl|rfl|rfl|rfl|rfl|rfl|rfl|rfl|rfl <;> exact⟨_,_,fun kk=>rfl⟩
 obtain⟨n,r,E⟩:=E
 have F: ¬(j:Int)<0:=by omega
 have H:=I.froz
 generalize T.sl (mN (kE A)) 11 false=aT at*
 generalize A.getD j 0=x at*
 rw[im akI (by simp[c23])]
 simp only[qA,seval,c23,h,E,F,H,adN]
section
variable(t:Tt)(c:Ct)(zT aT fT a7 a8 a9 iv iw iy:T)(hT:sI t zT aT fT)(hC:tZ c a7 a8 a9 iv iw iy)(hN:Qy c)(d:List (Int×Bool))(dT:T)(hd:CJ d dT)(hlen:d.length≤100)(hL: ∀f∈t.fl,f.nu.length≤mJ)
include hT hC hN hd hlen hL
theorem avK(h0:dE t c d=0)(x y:Int)(g:Nat)(E6:ib)(fr:Fr)(lh:iz ib)(sh:List ib)(Z:an fr 2=dT)(h3:an fr 3= .ptr .L 3 1 0)(W:an fr 4= .ptr .L 4 1 0)(h9:an fr 9= .ptr .L 9 g 0)(F:an fr 10= .sl (mN (kE (k9 t c d))) 11 false)(h11:an fr 11= .i .i64 0)(X:a6 lh 3=⟨1,.cells [zT,aT,fT] 0 true⟩)(N:a6 lh 4=⟨1,.cells (jf c a7 a8 a9 iv iw iy) 0 true⟩)(H:a6 lh 6=E6)(I:a6 lh 9=⟨g,.cells [.i .i64 x,.i .i64 y,.nilsl] 0 true⟩):
  Lp pE 72 wS fr lh sh (.ext 0) fun f l s=>s=sh∧a6 l 6=E6∧a6 l 9=⟨g,.cells [.i .i64 x,.i .i64 y,mh l 9 2] 0 true⟩∧cellsOf (mh l 9 2)= [mh l 9 2]∧noTup (mh l 9 2)=true∧ ∀e m sh,fzW m (mr l 6 e) sh false (mh l 9 2)=some (kz c.li.length (ints (om (k9 t c d) c)),WL (mr l 6 e) (mh l 9 2)):=by
 have hz:=WQ t c zT aT fT a7 a8 a9 iv iw iy hT hC
 have hfz:=hd.sl.froz
 obtain⟨ht,hc,hS,g1,g2,g3⟩:=Vx t c zT aT fT a7 a8 a9 iv iw iy hT hC hN hL d dT hd (by omega) h0
 obtain⟨hms,avI⟩:=Ns hc
 have hA:=(CZ (t:=t) (c:=c) ht hc g1 hlen g3).1
 have XE:=agb t c zT aT fT a7 a8 a9 iv iw iy hT hC hN d dT hd hlen hL h0
 have hat:=ZN (k9 t c d) hA
 obtain⟨_,_,_,_,⟨wT,O,yF⟩,_⟩:=id hC
 have Y:=O.lenI
 have agc:froz (T.sl (mN (kE (k9 t c d))) 11 false)=true:=rfl
 generalize k9 t c d=A at*
 generalize T.sl (mN (kE A)) 11 false=aV at*
 unfold jf at*
 suffices hh:Lp pE 72 wS fr lh sh (.ext 0) fun f l s=>s=sh∧a6 l 6=E6∧ ∃v,iP l v 69 1 c.li.length (ints (om A c))∧a6 l 9=⟨g,.cells [.i .i64 x,.i .i64 y,v] 0 true⟩by
  obtain⟨h,q1,q2,v,E,ho⟩:=hh
  refine⟨h,q1,q2, ?_⟩
  have e:mh (lZ pE 72 wS fr lh sh) 9 2=v:=vu ho
  rw[e]
  exact⟨ho,E.cells,E.noTup,fun e m sh=>iP.fzW (E.congr (jg _ _ (by omega)))⟩
 refine px L1 (fun n f l s=>an f 11= .i .i64 (n:Int)∧s=sh∧a6 l 6=E6∧a6 l 3=a6 lh 3∧a6 l 4=a6 lh 4∧ ∃v,iP l v 69 1 n (ints ((om A c).take n))∧a6 l 9=⟨g,.cells [.i .i64 x,.i .i64 y,v] 0 true⟩) c.li.length ⟨h11,rfl,H,rfl,rfl,.nilsl,iP.nil,I⟩ ?_ ?_
 ·rintro n f l _ hk U ⟨D,rfl,H,V,J,v,E,I⟩
  rw[X]at V
  rw[N]at J
  have iR:(n:Int)<c.li.length:=by omega
  have hw:=iM (k:=n) (by omega)
  obtain⟨cc,r,iS,rfl,_⟩:=oa (k:=4) WU.len O yF n hk
  have hm:=hms _ (List.getElem_mem hk)
  have pD:ints ((om A c).take (n+1))=ints ((om A c).take n)++ [.i .i64 (Vy A (PV c) c.li[n].me)]:=by
   have hk2:n<(om A c).length:=by unfold om;simpa using hk
   rw[List.take_succ_eq_append_getElem hk2]
   simp[ints,om]
  generalize c.li[n]=u at*
  have K:=fun(x:T) (iN:iz ib) (jb:List ib) (e:a6 iN 69=a6 l 69)=>A7 (d:=69) (bytes:=8) (sh:=jb) (E.congr e) (fun _=>rfl) [x] rfl (by unfold roomy;omega) true
  have AO:=E.notS
  rw[pD]
  clear pD
  unfold Vy
  have hj:=Vz hm
  have lM: ¬([99,114,101,100,105,116]:List Nat)= [100,117,116,105,101,115]:=by decide
  by_cases P4:u.me= [99,114,101,100,105,116]
  ·rw[if_pos P4]
   generalize pJ A (PV c)=x at*
   simp(maxDischargeDepth:=6) only[qA,seval,gd,repl,iC,wS,U,Z,h3,W,h9,F,D,X,N,H,V,J,I,Y,iR,hw,iS,P4,lM,XE,K,AO,hz,hfz,asS]
   exact⟨_,by rw[lz (by decide)];exact(K _ _ _ (by simp only[qA,seval])).2.1,rfl⟩
  ·by_cases G6:u.me= [100,117,116,105,101,115]
   ·rw[if_neg P4,if_pos G6]
    simp(maxDischargeDepth:=6) only[qA,seval,gd,repl,iC,wS,U,Z,h3,W,h9,F,D,X,N,H,V,J,I,Y,iR,hw,iS,G6,K,AO]
    exact⟨_,by rw[lz (by decide)];exact(K _ _ _ (by simp only[qA,seval])).2.1,rfl⟩
   ·obtain⟨j,xG,hj2⟩:=hj P4 G6
    have avL:=hat u.me j hj2 xG
    rw[if_neg P4,if_neg G6,xG,Int.toNat_natCast]
    generalize A.getD j 0=x at*
    simp(maxDischargeDepth:=6) only[qA,seval,gd,repl,iC,wS,U,Z,h3,W,h9,F,D,X,N,H,V,J,I,Y,iR,hw,iS,P4,G6,avL,agc,K,AO,asT]
    exact⟨_,by rw[lz (by decide)];exact(K _ _ _ (by simp only[qA,seval])).2.1,rfl⟩
 ·rintro f l _ U ⟨D,rfl,H,V,J,v,E,I⟩
  rw[N]at J
  rw[List.take_of_length_le (by unfold om;simp)]at E
  simp only[qA,seval,gd,wS,U,D,W,J,Y,H,Int.lt_irrefl]
  exact⟨v,E,I⟩
theorem agd:hZ pE 8 [.agg [zT,aT,fT],.agg (jf c a7 a8 a9 iv iw iy),dT] []=some (.tup [.agg [.i .i64 (ZL t c d),.i .i64 (ZM t c d),kz (AP t c d).length (ints (AP t c d))],.i .i64 (dE t c d)],[]):=by
 have J:=WQ t c zT aT fT a7 a8 a9 iv iw iy hT hC
 have E:=hd.sl.froz
 have D:=Gj t c zT aT fT a7 a8 a9 iv iw iy hT hC hN hL d dT hd (by omega)
 rw[show(if mz t c≠0 then mz t c else sn c t.fl d)=dE t c d from rfl]at D
 unfold ZL ZM AP
 rw[im fn8 (by simp[c8])]
 by_cases h:dE t c d=0
 ·obtain⟨K,hc,hS,N,U,O⟩:=Vx t c zT aT fT a7 a8 a9 iv iw iy hT hC hN hL d dT hd (by omega) h
  have F:=Jm t c zT aT fT a7 a8 a9 iv iw iy hT hC K hc d dT hd N hlen O
  have H:=Vt t c zT aT fT a7 a8 a9 iv iw iy hT hC K hc d dT hd N hlen O
  have Ha:=fun fr lh sh=>avK t c zT aT fT a7 a8 a9 iv iw iy hT hC hN d dT hd hlen hL h (rj c (kb t.fl d 0)) (rk c (kb t.fl d (d.length-1))) 1 ⟨1,.cells [.i .i64 0,.i .i64 0,.nilsl] 0 true⟩ fr lh sh
  rw[if_neg (by simp[h]),if_neg (by simp[h]),if_neg (by simp[h]),C1]
  rw[h]at D ⊢
  generalize rj c (kb t.fl d 0)=x1 at*
  generalize rk c (kb t.fl d (d.length-1))=x2 at*
  generalize k9 t c d=A at*
  have I:froz1 (T.sl (mN (kE A)) 11 false)=true:=rfl
  generalize T.sl (mN (kE A)) 11 false=aV at*
  unfold jf at*
  simp(maxDischargeDepth:=6) only[qA,zB,seval,c8,L1,D,F,H,Ha,J,E,I,RO,akE,akG]
 ·rw[if_pos h,if_pos h,if_pos h]
  generalize dE t c d=e at*
  unfold jf at*
  simp only[qA,seval,c8,D,h,J,E,RO]
  rfl
end
theorem age(x y:Int)(l:List Int)(v w:T)(hv:IsSl v l.length (ints l))(D:IsSl w l.length (ints l))(hlen:l.length≤1000):hZ pE 10 [.agg [.i .i64 x,.i .i64 y,v],.agg [.i .i64 x,.i .i64 y,w]] []=some (.b true,[]):=by
 have E:=hv.lenI
 have F:=D.lenI
 have hL: ∀fr lh sh,an fr 2= .ptr .L 2 1 0→an fr 3= .ptr .L 3 1 0→an fr 5= .i .i64 0→a6 lh 2=⟨1,.cells [.i .i64 x,.i .i64 y,v] 0 true⟩→a6 lh 3=⟨1,.cells [.i .i64 x,.i .i64 y,w] 0 true⟩→Lp pE 38 Bg fr lh sh (.ext 0) fun f l s=>s=sh:=by
  intro fr lh sh J K h N O
  refine px Hj (fun n f l s=>an f 5= .i .i64 (n:Int)∧l=lh∧s=sh) l.length ⟨h,rfl,rfl⟩ ?_ ?_
  ·rintro n f _ _ H I ⟨h,rfl,rfl⟩
   have W:(n:Int)<l.length:=by omega
   have WJ:=iM (k:=n) (by omega)
   have U:=fun kk=>hv.ia (sz:=1) (k:=n) (kk:=kk) (by rw[lB];omega) H
   have V:=fun kk=>D.ia (sz:=1) (k:=n) (kk:=kk) (by rw[lB];omega) H
   simp only[Nat.mul_one,oG l n H]at U V
   simp(maxDischargeDepth:=6) only[qA,seval,gd,iY,mX,iC,Bg,I,J,K,h,N,O,E,F,W,WJ,U,V]
  ·rintro f _ _ I ⟨h,rfl,rfl⟩
   simp only[qA,seval,gd,Bg,I,J,K,h,N,O,E,F,Int.lt_irrefl]
 have X:=hv.froz1
 have Y:=D.froz1
 have Z:tO (.flat [.int,.int]) (.agg [.i .i64 x,.i .i64 y]) (.agg [.i .i64 x,.i .i64 y])=some true:=by simp[tO,ju,kO]
 have hb:(true != true)=false:=rfl
 rw[im akw (by simp[vU])]
 simp(maxDischargeDepth:=6) only[qA,seval,vU,Hj,Z,hb,E,F,hL,X,Y]
noncomputable def Jq(m:Nat)(h:List Nat)(sh:List ib):Option (List ib):=
 match jI pE m 51 [.s h] []with
 |some (.tup [AQ,_,.i .i64 0],_)=>
  match lenI AQ with
  |some (.i .i64 (.ofNat (_+1)))=>bif froz AQ then
   match jI pE m 52 [.ptr .S 0 1 0,.ptr .S 1 1 0,AQ] sh with
   |some (.i .i64 0,D)=>some D
   |_=>none
   else none
  |_=>none
 |_=>none
noncomputable def kJ(m:Nat):List (List Nat)→List ib→Option (List ib)
 | [],sh=>some sh
 |l::h,sh=>match Jq m l sh with|some jb=>kJ m h jb|none=>none
def iZ(n:Int):T:= .i .i64 n
def kS0:List ib:= [⟨1,.cells [iZ 0,iZ 0,iZ 0,iZ 1440,iZ 2880,iZ 0,iZ 0,.nilsl,.nilsl,.nilsl,.nilsl,.nilsl,.nilsl,iZ 0] 0 true⟩,⟨1,.cells [.b false,.b false,.b false,.b false,.b false,.b false,.b false] 0 true⟩]
def kSA:List ib:= [⟨1,.cells [(iZ 60),(iZ 30),(iZ 30),(iZ 1440),(iZ 1800),(iZ 0),(iZ 0),.nilsl,.nilsl,.nilsl,.nilsl,.nilsl,.nilsl,(iZ 0)] 0 true⟩,⟨1,.cells [(.b true),(.b true),(.b true),(.b false),(.b true),(.b false),(.b false)] 0 true⟩]
def ZO:List (List Nat):= [[114,101,112,111,114,116,32,49,58,48,48],[114,101,108,101,97,115,101,32,48,58,51,48],[99,111,110,110,101,99,116,32,48,58,51,48],[108,97,121,111,118,101,114,32,51,48,58,48,48]]
def kSB:List ib:= [⟨1,.cells [(iZ 60),(iZ 30),(iZ 30),(iZ 1440),(iZ 1800),(iZ 1320),(iZ 360),.nilsl,(.isl .S 2 1 0 1 6),.nilsl,.nilsl,.nilsl,.nilsl,(iZ 0)] 0 true⟩,⟨1,.cells [(.b true),(.b true),(.b true),(.b false),(.b true),(.b false),(.b true)] 0 true⟩,⟨1,.cells [(iZ 1),(.s [108,101,103,115,95,109,97,120]),(iZ 17),(iZ 0),(.s []),(.sl [(iZ 8),(iZ 0),(.s []),(.sl [(iZ 6),(iZ 0),(.s [108,101,103,115]),.nilsl,(iZ 6),(iZ 0),(.s [104,101,97,100,115]),.nilsl] 2 true),(iZ 1),(iZ 3),(.s []),.nilsl] 2 true)] 0 false⟩]
def lSB:List (List Nat):= [[110,105,103,104,116,32,64,50,50,58,48,48,32,116,111,32,64,48,54,58,48,48],[100,117,116,121,32,114,117,108,101,32,108,101,103,115,95,109,97,120,32,105,115,32,108,101,103,115,32,43,32,104,101,97,100,115,32,60,61,32,51]]
def ZP:List ib:= [⟨1,.cells [(iZ 60),(iZ 30),(iZ 30),(iZ 1440),(iZ 1800),(iZ 1320),(iZ 360),.nilsl,(.isl .S 2 1 0 1 6),(.isl .S 3 3 0 3 5),.nilsl,.nilsl,.nilsl,(iZ 0)] 0 true⟩,⟨1,.cells [(.b true),(.b true),(.b true),(.b false),(.b true),(.b false),(.b true)] 0 true⟩,⟨1,.cells [(iZ 1),(.s [108,101,103,115,95,109,97,120]),(iZ 17),(iZ 0),(.s []),(.sl [(iZ 8),(iZ 0),(.s []),(.sl [(iZ 6),(iZ 0),(.s [108,101,103,115]),.nilsl,(iZ 6),(iZ 0),(.s [104,101,97,100,115]),.nilsl] 2 true),(iZ 1),(iZ 3),(.s []),.nilsl] 2 true)] 0 false⟩,⟨3,.cells [(iZ 1),(iZ 8),(iZ 0),(.s []),(.sl [(iZ 10),(iZ 0),(.s []),(.sl [(iZ 1),(iZ 10),(.s []),.nilsl,(iZ 6),(iZ 0),(.s [108,101,103,115]),.nilsl] 2 true),(iZ 11),(iZ 0),(.s []),(.sl [(iZ 6),(iZ 0),(.s [98,108,111,99,107]),.nilsl,(iZ 2),(iZ 30),(.s []),.nilsl] 2 true)] 2 true),(iZ 2),(iZ 1),(iZ 5),(.s []),.nilsl,(iZ 3),(iZ 1),(iZ 7),(.s []),.nilsl] 0 false⟩]
def lSP:List (List Nat):= [[100,117,116,121,32,99,111,115,116,32,105,115,32,49,48,32,42,32,108,101,103,115,32,43,32,98,108,111,99,107,32,47,32,48,58,51,48],[114,101,115,116,32,99,111,115,116,32,105,115,32,53],[112,97,105,114,105,110,103,32,99,111,115,116,32,105,115,32,55]]
def apc:List ib:= [⟨1,.cells [(iZ 60),(iZ 30),(iZ 30),(iZ 1440),(iZ 1800),(iZ 0),(iZ 0),.nilsl,(.isl .S 2 2 0 2 6),.nilsl,.nilsl,.nilsl,.nilsl,(iZ 0)] 0 true⟩,⟨1,.cells [(.b true),(.b true),(.b true),(.b false),(.b true),(.b false),(.b false)] 0 true⟩,⟨2,.cells [(iZ 2),(.s [109,105,110,105,109,117,109]),(iZ 17),(iZ 0),(.s []),(.sl [(iZ 2),(iZ 120),(.s []),.nilsl,(iZ 6),(iZ 0),(.s [114,101,115,116]),.nilsl] 2 true),(iZ 3),(.s [115,104,111,114,116]),(iZ 17),(iZ 0),(.s []),(.sl [(iZ 6),(iZ 0),(.s [100,117,116,105,101,115]),.nilsl,(iZ 1),(iZ 2),(.s []),.nilsl] 2 true)] 0 false⟩]
def agi:List (List Nat):= [[114,101,115,116,32,114,117,108,101,32,109,105,110,105,109,117,109,32,105,115,32,50,58,48,48,32,60,61,32,114,101,115,116],[112,97,105,114,105,110,103,32,114,117,108,101,32,115,104,111,114,116,32,105,115,32,100,117,116,105,101,115,32,60,61,32,50]]
def kS1:List ib:= [⟨1,.cells [(iZ 60),(iZ 30),(iZ 30),(iZ 1440),(iZ 1800),(iZ 0),(iZ 0),.nilsl,(.isl .S 2 2 0 2 6),(.isl .S 3 2 0 2 5),.nilsl,.nilsl,.nilsl,(iZ 0)] 0 true⟩,⟨1,.cells [(.b true),(.b true),(.b true),(.b false),(.b true),(.b false),(.b false)] 0 true⟩,⟨2,.cells [(iZ 2),(.s [109,105,110,105,109,117,109]),(iZ 17),(iZ 0),(.s []),(.sl [(iZ 2),(iZ 120),(.s []),.nilsl,(iZ 6),(iZ 0),(.s [114,101,115,116]),.nilsl] 2 true),(iZ 3),(.s [115,104,111,114,116]),(iZ 17),(iZ 0),(.s []),(.sl [(iZ 6),(iZ 0),(.s [100,117,116,105,101,115]),.nilsl,(iZ 1),(iZ 2),(.s []),.nilsl] 2 true)] 0 false⟩,⟨2,.cells [(iZ 1),(iZ 8),(iZ 0),(.s []),(.sl [(iZ 1),(iZ 4),(.s []),.nilsl,(iZ 10),(iZ 0),(.s []),(.sl [(iZ 6),(iZ 0),(.s [104,101,97,100,115]),.nilsl,(iZ 1),(iZ 3),(.s []),.nilsl] 2 true)] 2 true),(iZ 3),(iZ 9),(iZ 0),(.s []),(.sl [(iZ 10),(iZ 0),(.s []),(.sl [(iZ 6),(iZ 0),(.s [100,97,121,115]),.nilsl,(iZ 1),(iZ 10),(.s []),.nilsl] 2 true),(iZ 6),(iZ 0),(.s [108,101,103,115]),.nilsl] 2 true)] 0 false⟩]
def lS1:List (List Nat):= [[100,117,116,121,32,99,111,115,116,32,105,115,32,52,32,43,32,104,101,97,100,115,32,42,32,51],[112,97,105,114,105,110,103,32,99,111,115,116,32,105,115,32,100,97,121,115,32,42,32,49,48,32,45,32,108,101,103,115]]
def apd:List ib:= [⟨1,.cells [(iZ 60),(iZ 30),(iZ 30),(iZ 1440),(iZ 1800),(iZ 1320),(iZ 360),.nilsl,(.isl .S 2 2 0 2 6),(.isl .S 3 3 0 3 5),.nilsl,.nilsl,.nilsl,(iZ 0)] 0 true⟩,⟨1,.cells [(.b true),(.b true),(.b true),(.b false),(.b true),(.b false),(.b true)] 0 true⟩,⟨2,.cells [(iZ 1),(.s [108,101,103,115,95,109,97,120]),(iZ 17),(iZ 0),(.s []),(.sl [(iZ 8),(iZ 0),(.s []),(.sl [(iZ 6),(iZ 0),(.s [108,101,103,115]),.nilsl,(iZ 6),(iZ 0),(.s [104,101,97,100,115]),.nilsl] 2 true),(iZ 1),(iZ 3),(.s []),.nilsl] 2 true),(iZ 1),(.s [101,97,114,108,121]),(iZ 22),(iZ 0),(.s []),(.sl [(iZ 15),(iZ 0),(.s []),(.sl [(iZ 6),(iZ 0),(.s [115,116,97,114,116]),.nilsl,(iZ 3),(iZ 0),(.s []),.nilsl,(iZ 3),(iZ 300),(.s []),.nilsl] 3 true),(iZ 17),(iZ 0),(.s []),(.sl [(iZ 6),(iZ 0),(.s [108,101,103,115]),.nilsl,(iZ 1),(iZ 1),(.s []),.nilsl] 2 true)] 2 true)] 0 false⟩,⟨3,.cells [(iZ 1),(iZ 8),(iZ 0),(.s []),(.sl [(iZ 10),(iZ 0),(.s []),(.sl [(iZ 1),(iZ 10),(.s []),.nilsl,(iZ 6),(iZ 0),(.s [108,101,103,115]),.nilsl] 2 true),(iZ 11),(iZ 0),(.s []),(.sl [(iZ 6),(iZ 0),(.s [98,108,111,99,107]),.nilsl,(iZ 2),(iZ 30),(.s []),.nilsl] 2 true)] 2 true),(iZ 2),(iZ 1),(iZ 5),(.s []),.nilsl,(iZ 3),(iZ 1),(iZ 7),(.s []),.nilsl] 0 false⟩]
def agk:List (List Nat):= [[100,117,116,121,32,114,117,108,101,32,101,97,114,108,121,32,105,115,32,115,116,97,114,116,32,105,110,32,64,48,48,58,48,48,32,116,111,32,64,48,53,58,48,48,32,105,109,112,108,105,101,115,32,108,101,103,115,32,60,61,32,49]]
def kS2:List ib:= [⟨1,.cells [(iZ 60),(iZ 30),(iZ 30),(iZ 1440),(iZ 1800),(iZ 1320),(iZ 360),.nilsl,(.isl .S 2 3 0 3 6),(.isl .S 3 3 0 3 5),.nilsl,.nilsl,.nilsl,(iZ 0)] 0 true⟩,⟨1,.cells [(.b true),(.b true),(.b true),(.b false),(.b true),(.b false),(.b true)] 0 true⟩,⟨3,.cells [(iZ 1),(.s [108,101,103,115,95,109,97,120]),(iZ 17),(iZ 0),(.s []),(.sl [(iZ 8),(iZ 0),(.s []),(.sl [(iZ 6),(iZ 0),(.s [108,101,103,115]),.nilsl,(iZ 6),(iZ 0),(.s [104,101,97,100,115]),.nilsl] 2 true),(iZ 1),(iZ 3),(.s []),.nilsl] 2 true),(iZ 1),(.s [101,97,114,108,121]),(iZ 22),(iZ 0),(.s []),(.sl [(iZ 15),(iZ 0),(.s []),(.sl [(iZ 6),(iZ 0),(.s [115,116,97,114,116]),.nilsl,(iZ 3),(iZ 0),(.s []),.nilsl,(iZ 3),(iZ 300),(.s []),.nilsl] 3 true),(iZ 17),(iZ 0),(.s []),(.sl [(iZ 6),(iZ 0),(.s [108,101,103,115]),.nilsl,(iZ 1),(iZ 1),(.s []),.nilsl] 2 true)] 2 true),(iZ 3),(.s [108,101,110,103,116,104]),(iZ 17),(iZ 0),(.s []),(.sl [(iZ 6),(iZ 0),(.s [98,108,111,99,107]),.nilsl,(iZ 2),(iZ 480),(.s []),.nilsl] 2 true)] 0 false⟩,⟨3,.cells [(iZ 1),(iZ 8),(iZ 0),(.s []),(.sl [(iZ 10),(iZ 0),(.s []),(.sl [(iZ 1),(iZ 10),(.s []),.nilsl,(iZ 6),(iZ 0),(.s [108,101,103,115]),.nilsl] 2 true),(iZ 11),(iZ 0),(.s []),(.sl [(iZ 6),(iZ 0),(.s [98,108,111,99,107]),.nilsl,(iZ 2),(iZ 30),(.s []),.nilsl] 2 true)] 2 true),(iZ 2),(iZ 1),(iZ 5),(.s []),.nilsl,(iZ 3),(iZ 1),(iZ 7),(.s []),.nilsl] 0 false⟩]
def lS2:List (List Nat):= [[112,97,105,114,105,110,103,32,114,117,108,101,32,108,101,110,103,116,104,32,105,115,32,98,108,111,99,107,32,60,61,32,56,58,48,48]]
def ape:List ib:= [⟨1,.cells [(iZ 60),(iZ 30),(iZ 30),(iZ 1440),(iZ 1800),(iZ 1320),(iZ 360),.nilsl,(.isl .S 2 1 0 1 6),(.isl .S 3 3 0 3 5),(.isl .S 4 1 0 1 4),(.isl .S 5 1 0 1 4),.nilsl,(iZ 0)] 0 true⟩,⟨1,.cells [(.b true),(.b true),(.b true),(.b false),(.b true),(.b false),(.b true)] 0 true⟩,⟨1,.cells [(iZ 1),(.s [108,101,103,115,95,109,97,120]),(iZ 17),(iZ 0),(.s []),(.sl [(iZ 8),(iZ 0),(.s []),(.sl [(iZ 6),(iZ 0),(.s [108,101,103,115]),.nilsl,(iZ 6),(iZ 0),(.s [104,101,97,100,115]),.nilsl] 2 true),(iZ 1),(iZ 3),(.s []),.nilsl] 2 true)] 0 false⟩,⟨3,.cells [(iZ 1),(iZ 8),(iZ 0),(.s []),(.sl [(iZ 10),(iZ 0),(.s []),(.sl [(iZ 1),(iZ 10),(.s []),.nilsl,(iZ 6),(iZ 0),(.s [108,101,103,115]),.nilsl] 2 true),(iZ 11),(iZ 0),(.s []),(.sl [(iZ 6),(iZ 0),(.s [98,108,111,99,107]),.nilsl,(iZ 2),(iZ 30),(.s []),.nilsl] 2 true)] 2 true),(iZ 2),(iZ 1),(iZ 5),(.s []),.nilsl,(iZ 3),(iZ 1),(iZ 7),(.s []),.nilsl] 0 false⟩,⟨1,.cells [(iZ 13),(iZ 0),(.s []),(.sl [(iZ 6),(iZ 0),(.s [98,108,111,99,107]),.nilsl,(iZ 2),(iZ 120),(.s []),.nilsl] 2 false)] 0 false⟩,⟨1,.cells [(.s [102,108,121,105,110,103]),(.s [98,108,111,99,107]),(iZ 360),(iZ 2)] 0 false⟩]
def agm:List (List Nat):= [[100,117,116,121,32,99,114,101,100,105,116,32,105,115,32,109,97,120,40,98,108,111,99,107,44,32,50,58,48,48,41],[108,105,109,105,116,32,102,108,121,105,110,103,32,105,115,32,98,108,111,99,107,32,54,58,48,48,32,105,110,32,50,32,100,97,121,115]]
def kS3:List ib:= [⟨1,.cells [(iZ 60),(iZ 30),(iZ 30),(iZ 1440),(iZ 1800),(iZ 1320),(iZ 360),.nilsl,(.isl .S 2 1 0 1 6),(.isl .S 3 3 0 3 5),(.isl .S 4 1 0 1 4),(.isl .S 5 2 0 2 4),(.sl [(.s [102,114,101,101]),(iZ 1),(iZ 3)] 1 false),(iZ 600)] 0 true⟩,⟨1,.cells [(.b true),(.b true),(.b true),(.b false),(.b true),(.b true),(.b true)] 0 true⟩,⟨1,.cells [(iZ 1),(.s [108,101,103,115,95,109,97,120]),(iZ 17),(iZ 0),(.s []),(.sl [(iZ 8),(iZ 0),(.s []),(.sl [(iZ 6),(iZ 0),(.s [108,101,103,115]),.nilsl,(iZ 6),(iZ 0),(.s [104,101,97,100,115]),.nilsl] 2 true),(iZ 1),(iZ 3),(.s []),.nilsl] 2 true)] 0 false⟩,⟨3,.cells [(iZ 1),(iZ 8),(iZ 0),(.s []),(.sl [(iZ 10),(iZ 0),(.s []),(.sl [(iZ 1),(iZ 10),(.s []),.nilsl,(iZ 6),(iZ 0),(.s [108,101,103,115]),.nilsl] 2 true),(iZ 11),(iZ 0),(.s []),(.sl [(iZ 6),(iZ 0),(.s [98,108,111,99,107]),.nilsl,(iZ 2),(iZ 30),(.s []),.nilsl] 2 true)] 2 true),(iZ 2),(iZ 1),(iZ 5),(.s []),.nilsl,(iZ 3),(iZ 1),(iZ 7),(.s []),.nilsl] 0 false⟩,⟨1,.cells [(iZ 13),(iZ 0),(.s []),(.sl [(iZ 6),(iZ 0),(.s [98,108,111,99,107]),.nilsl,(iZ 2),(iZ 120),(.s []),.nilsl] 2 false)] 0 false⟩,⟨2,.cells [(.s [102,108,121,105,110,103]),(.s [98,108,111,99,107]),(iZ 360),(iZ 2),(.s [119,111,114,107]),(.s [100,117,116,105,101,115]),(iZ 3),(iZ 3)] 0 false⟩]
def lS3:List (List Nat):= [[108,105,109,105,116,32,119,111,114,107,32,105,115,32,100,117,116,105,101,115,32,51,32,105,110,32,51,32,100,97,121,115],[111,102,102,32,102,114,101,101,32,105,115,32,49,32,105,110,32,51,32,100,97,121,115],[103,117,97,114,97,110,116,101,101,32,49,48,58,48,48]]
def apf:List ib:= [⟨1,.cells [(iZ 0),(iZ 0),(iZ 20),(iZ 240),(iZ 1200),(iZ 0),(iZ 0),.nilsl,(.isl .S 2 1 0 1 6),.nilsl,.nilsl,.nilsl,.nilsl,(iZ 0)] 0 true⟩,⟨1,.cells [(.b false),(.b false),(.b true),(.b true),(.b true),(.b false),(.b false)] 0 true⟩,⟨1,.cells [(iZ 1),(.s [111,110,101,95,116,121,112,101]),(iZ 17),(iZ 0),(.s []),(.sl [(iZ 6),(iZ 0),(.s [116,121,112,101,115]),.nilsl,(iZ 1),(iZ 1),(.s []),.nilsl] 2 true)] 0 false⟩]
def ago:List (List Nat):= [[99,111,110,110,101,99,116,32,48,58,50,48],[115,105,116,32,52,58,48,48],[108,97,121,111,118,101,114,32,50,48,58,48,48],[100,117,116,121,32,114,117,108,101,32,111,110,101,95,116,121,112,101,32,105,115,32,116,121,112,101,115,32,60,61,32,49]]
def kS4:List ib:= [⟨1,.cells [(iZ 0),(iZ 0),(iZ 20),(iZ 240),(iZ 1200),(iZ 0),(iZ 0),.nilsl,(.isl .S 2 1 0 1 6),(.isl .S 3 2 0 2 5),.nilsl,.nilsl,.nilsl,(iZ 0)] 0 true⟩,⟨1,.cells [(.b false),(.b false),(.b true),(.b true),(.b true),(.b false),(.b false)] 0 true⟩,⟨1,.cells [(iZ 1),(.s [111,110,101,95,116,121,112,101]),(iZ 17),(iZ 0),(.s []),(.sl [(iZ 6),(iZ 0),(.s [116,121,112,101,115]),.nilsl,(iZ 1),(iZ 1),(.s []),.nilsl] 2 true)] 0 false⟩,⟨2,.cells [(iZ 1),(iZ 9),(iZ 0),(.s []),(.sl [(iZ 1),(iZ 0),(.s []),.nilsl,(iZ 6),(iZ 0),(.s [108,101,103,115]),.nilsl] 2 true),(iZ 3),(iZ 14),(iZ 0),(.s []),(.sl [(iZ 16),(iZ 0),(.s []),(.sl [(iZ 6),(iZ 0),(.s [108,101,103,115]),.nilsl,(iZ 1),(iZ 2),(.s []),.nilsl] 2 true),(iZ 1),(iZ 9),(.s []),.nilsl,(iZ 1),(iZ 2),(.s []),.nilsl] 3 true)] 0 false⟩]
def lS4:List (List Nat):= [[100,117,116,121,32,99,111,115,116,32,105,115,32,48,32,45,32,108,101,103,115],[112,97,105,114,105,110,103,32,99,111,115,116,32,105,115,32,105,102,32,108,101,103,115,32,60,32,50,32,116,104,101,110,32,57,32,101,108,115,101,32,50]]
def apg:List ib:= [⟨1,.cells [(iZ 30),(iZ 30),(iZ 30),(iZ 1440),(iZ 2160),(iZ 1320),(iZ 360),.nilsl,.nilsl,.nilsl,.nilsl,.nilsl,.nilsl,(iZ 0)] 0 true⟩,⟨1,.cells [(.b true),(.b true),(.b true),(.b false),(.b true),(.b false),(.b true)] 0 true⟩]
def agq:List (List Nat):= [[114,101,112,111,114,116,32,48,58,51,48],[114,101,108,101,97,115,101,32,48,58,51,48],[99,111,110,110,101,99,116,32,48,58,51,48],[108,97,121,111,118,101,114,32,51,54,58,48,48],[110,105,103,104,116,32,64,50,50,58,48,48,32,116,111,32,64,48,54,58,48,48]]
def aph:List ib:= [⟨1,.cells [(iZ 30),(iZ 30),(iZ 30),(iZ 1440),(iZ 2160),(iZ 1320),(iZ 360),.nilsl,(.isl .S 2 1 0 1 6),(.isl .S 3 1 0 1 5),.nilsl,.nilsl,.nilsl,(iZ 0)] 0 true⟩,⟨1,.cells [(.b true),(.b true),(.b true),(.b false),(.b true),(.b false),(.b true)] 0 true⟩,⟨1,.cells [(iZ 1),(.s [102,108,111,119,110]),(iZ 17),(iZ 0),(.s []),(.sl [(iZ 6),(iZ 0),(.s [104,101,97,100,115]),.nilsl,(iZ 6),(iZ 0),(.s [108,101,103,115]),.nilsl] 2 true)] 0 false⟩,⟨1,.cells [(iZ 1),(iZ 11),(iZ 0),(.s []),(.sl [(iZ 6),(iZ 0),(.s [115,112,97,110]),.nilsl,(iZ 2),(iZ 60),(.s []),.nilsl] 2 true)] 0 false⟩]
def agr:List (List Nat):= [[100,117,116,121,32,114,117,108,101,32,102,108,111,119,110,32,105,115,32,104,101,97,100,115,32,60,61,32,108,101,103,115],[100,117,116,121,32,99,111,115,116,32,105,115,32,115,112,97,110,32,47,32,49,58,48,48]]
def kS5:List ib:= [⟨1,.cells [(iZ 30),(iZ 30),(iZ 30),(iZ 1440),(iZ 2160),(iZ 1320),(iZ 360),.nilsl,(.isl .S 2 1 0 1 6),(.isl .S 3 2 0 2 5),.nilsl,(.isl .S 4 1 0 1 4),.nilsl,(iZ 0)] 0 true⟩,⟨1,.cells [(.b true),(.b true),(.b true),(.b false),(.b true),(.b false),(.b true)] 0 true⟩,⟨1,.cells [(iZ 1),(.s [102,108,111,119,110]),(iZ 17),(iZ 0),(.s []),(.sl [(iZ 6),(iZ 0),(.s [104,101,97,100,115]),.nilsl,(iZ 6),(iZ 0),(.s [108,101,103,115]),.nilsl] 2 true)] 0 false⟩,⟨2,.cells [(iZ 1),(iZ 11),(iZ 0),(.s []),(.sl [(iZ 6),(iZ 0),(.s [115,112,97,110]),.nilsl,(iZ 2),(iZ 60),(.s []),.nilsl] 2 true),(iZ 2),(iZ 11),(iZ 0),(.s []),(.sl [(iZ 6),(iZ 0),(.s [114,101,115,116]),.nilsl,(iZ 2),(iZ 120),(.s []),.nilsl] 2 true)] 0 false⟩,⟨1,.cells [(.s [110,105,103,104,116,115]),(.s [110,105,103,104,116]),(iZ 240),(iZ 2)] 0 false⟩]
def lS5:List (List Nat):= [[114,101,115,116,32,99,111,115,116,32,105,115,32,114,101,115,116,32,47,32,50,58,48,48],[108,105,109,105,116,32,110,105,103,104,116,115,32,105,115,32,110,105,103,104,116,32,52,58,48,48,32,105,110,32,50,32,100,97,121,115]]
end Go.Proofs.YtbdfboojnfinkaaGreat
