/- Walks of functions of the program and of the reference, and their plain laws, part 9. Conditions: the theorems' own. -/
import Derived.Test.YtbdfboojnfinkaaGreatM8
import Derived.KernelRfl
set_option maxRecDepth 100000
set_option linter.unusedSimpArgs false
set_option linter.unusedVariables false
set_option maxHeartbeats 16000000
namespace Go.Proofs.YtbdfboojnfinkaaGreat
open Go Go.Ev
theorem Wt{n:Nat}(h:n≤1000):(n+1)*56≤roomy:=by unfold roomy;omega
theorem ag8:56≤roomy:=by unfold roomy;omega
def mB(h D F H I J K N:T):List T:= [.nilsl,h,D,F,.nilsl,H,I,J,K,N]
def nA(h D F H I J K:T)(N O U V k2 W X:RL):List (Nat×T×RL):= [(4,h,N),(4,D,O),(4,F,U),(3,H,V),(3,I,k2),(3,J,W),(3,K,X)]
def yC(c:Ct)(j:Int)(k:Nat):RL:=((c.ru.take k).filter fun u=>u.sc==j).map fun u=>(u.nm,comp (mZ c.cs) u.sc u.x)
def AK(c:Ct)(j:Int)(k:Nat):RL:=((c.co.take k).filter fun u=>u.sc==j).map fun u=>([],comp (mZ c.cs) u.sc u.x)
def PH(c:Ct)(k:Nat):RL:=(c.cr.take k).map fun u=>([],comp (mZ c.cs) 1 u)
theorem Dj(c:Ct)(j:Int){k:Nat}(h:k<c.ru.length):yC c j (k+1)=if c.ru[k].sc=j then yC c j k++ [(c.ru[k].nm,comp (mZ c.cs) c.ru[k].sc c.ru[k].x)]else yC c j k:=by
 grind [yC,List.take_succ_eq_append_getElem]
theorem Dk(c:Ct)(j:Int){k:Nat}(h:k<c.co.length):AK c j (k+1)=if c.co[k].sc=j then AK c j k++ [([],comp (mZ c.cs) c.co[k].sc c.co[k].x)]else AK c j k:=by
 grind [AK,List.take_succ_eq_append_getElem]
theorem Wu(c:Ct){k:Nat}(h:k<c.cr.length):PH c (k+1)=PH c k++ [([],comp (mZ c.cs) 1 c.cr[k])]:=by
 grind [PH,List.take_succ_eq_append_getElem]
theorem axg:lq [] 0 (nA .nilsl .nilsl .nilsl .nilsl .nilsl .nilsl .nilsl [] [] [] [] [] [] []):=by
 have h: ∀p∈nA .nilsl .nilsl .nilsl .nilsl .nilsl .nilsl .nilsl [] [] [] [] [] [] [],p.2=(.nilsl,[]):=by
  simp_all[nA,List.mem_cons,List.not_mem_nil]
 exact⟨fun p D=> .inl (by rw[h p D];exact⟨rfl,rfl⟩),fun i j hi F _=> .inl (by rw[h _ (List.getElem_mem hi)];rfl)⟩
def J7(l:Cs)(h:Int)(x:Ex):Prop:=(h=1∨h=2∨h=3)∧jh x=0∧ ∃k,x.ty (Gr l) h=(k,0)
theorem nwr(c:Ct)(N a8:T)(c7 c8:List T)(i7:IsSl N c.cs.length c7)(j7:kN c.cs c7)(i8:IsSl a8 c.ru.length c8)(j8:iB WN c.ru c8)(hlen:c.ru.length≤40)(zC: ∀u∈c.ru,J7 c.cs u.sc u.x)(zT aT fT a9 iv iw iy nb:T)(c2 c3 AE:ib)(CI:List (Nat×Int))(zD:oi c.cs CI)(fr:Fr)(lh:iz ib)(sh:List ib)(lC:sh=lp N (jo c.cs c.cs.length) CI [])
  (I:an fr 8= .ptr .L 37 1 0) (J:an fr 14= .ptr .S 2 1 0) (I0:an fr 73=a8) (Hd:an fr 74= .i .i64 (c.ru.length:Int)) (Qw:an fr 75= .i .i64 0) (V:a6 lh 2=c2) (W:a6 lh 3=c3) (X:a6 lh 35=AE) (K:a6 lh 37=⟨1,.cells (ma zT aT fT c N a8 a9 iv iw iy (mB .nilsl .nilsl .nilsl .nilsl .nilsl .nilsl .nilsl nb)) 0 true⟩):
  rD 232 mC fr lh sh (.ext 4)∧
  (a6 (lZ pE 232 mC fr lh sh) 2=c2∧a6 (lZ pE 232 mC fr lh sh) 3=c3∧a6 (lZ pE 232 mC fr lh sh) 35=AE∧ ∃(R:List ib) (kn:List (Nat×Int)) (D F H:T),ng pE 232 mC fr lh sh=lp N (jo c.cs c.cs.length) kn R∧oi c.cs kn∧lq R 40 (nA D F H .nilsl .nilsl .nilsl .nilsl (yC c 1 c.ru.length) (yC c 2 c.ru.length) (yC c 3 c.ru.length) [] [] [] [])∧a6 (lZ pE 232 mC fr lh sh) 37=⟨1,.cells (ma zT aT fT c N a8 a9 iv iw iy (mB D F H .nilsl .nilsl .nilsl .nilsl nb)) 0 true⟩):=by
 refine jc (P:=fun js iN jb=>a6 iN 2=c2∧a6 iN 3=c3∧a6 iN 35=AE∧ ∃(R:List ib) (kn:List (Nat×Int)) (D F H:T),jb=lp N (jo c.cs c.cs.length) kn R∧oi c.cs kn∧lq R 40 (nA D F H .nilsl .nilsl .nilsl .nilsl (yC c 1 c.ru.length) (yC c 2 c.ru.length) (yC c 3 c.ru.length) [] [] [] [])∧a6 iN 37=⟨1,.cells (ma zT aT fT c N a8 a9 iv iw iy (mB D F H .nilsl .nilsl .nilsl .nilsl nb)) 0 true⟩)
  (jm (fun k st=> ∃(fr:Fr) (jG:iz ib) (R:List ib) (kn:List (Nat×Int)) (D F H:T),st=⟨fr,jG,lp N (jo c.cs c.cs.length) kn R⟩∧oi c.cs kn∧lq R k (nA D F H .nilsl .nilsl .nilsl .nilsl (yC c 1 k) (yC c 2 k) (yC c 3 k) [] [] [] [])∧an fr 8= .ptr .L 37 1 0∧an fr 14= .ptr .S 2 1 0∧an fr 73=a8∧an fr 74= .i .i64 (c.ru.length:Int)∧an fr 75= .i .i64 (k:Int)∧a6 jG 2=c2∧a6 jG 3=c3∧a6 jG 35=AE∧a6 jG 37=⟨1,.cells (ma zT aT fT c N a8 a9 iv iw iy (mB D F H .nilsl .nilsl .nilsl .nilsl nb)) 0 true⟩) _ c.ru.length ?_ ?_ 0 _ (Nat.zero_le _) ⟨fr,lh,[],CI,.nilsl,.nilsl,.nilsl,by rw[lC],zD,axg,I,J,I0,Hd,Qw,V,W,X,K⟩)
 ·rintro k _ hk ⟨fr,jG,R,kn,D,F,H,rfl,ph,O,I,J,I0,Hd,Qw,V,W,X,K⟩
  left
  have iR:(k:Int)<c.ru.length:=by omega
  have hw:=iM (k:=k) (by omega)
  obtain⟨b,cb,rr,iS,kg,hb⟩:=Fc i8 j8 k hk
  obtain⟨nQ,hval,t,mV⟩:=zC c.ru[k] (List.getElem_mem hk)
  have Dl:=(nL hval).1
  obtain⟨cf,jM,iu,zj,oq,_⟩:=GY c.cs N R c.cs.length (Nat.le_refl _) (GZ c.cs N R c7 i7 j7) c.ru[k].sc (.inr nQ) c.ru[k].x t kn _ ph hb Dl (mM hval) (by rw[zN];exact mV)
  have hsz:=Bc (mZ c.cs) c.ru[k].sc c.ru[k].x
  have Y:=Dj c 1 hk
  have Z:=Dj c 2 hk
  have s3:=Dj c 3 hk
  generalize c.ru[k]=u at*
  generalize comp (mZ c.cs) u.sc u.x=y at*
  obtain⟨h,fc,rfl,vv,MU⟩:=zj.cells
  have WB:RlR (u.nm,y) [.s u.nm,.i .i64 y.op,.i .i64 y.num,h]:=⟨_,rfl,zj⟩
  have yA:yD 4 [(u.nm,y)] [.s u.nm,.i .i64 y.op,.i .i64 y.num,h]:=by
   have:=(yD.nil 4).app4 (u.nm,y) _ WB (by show y.sz≤1000;omega)
   grind
  have hro:=ag8
  have aBK:k≤40:=by omega
  unfold ma jf mB at K ⊢
  simp only[List.cons_append,List.nil_append]at K ⊢
  rcases nQ with nQ|nQ|nQ <;> rw[nQ]at iS iu
  ·have U:=O.1 (4,D,yC c 1 k) (by simp[nA])
   rw[if_pos nQ]at Y
   rw[if_neg (by rw[nQ];decide)]at Z s3
   rcases U with⟨hnil,hl0⟩|⟨i,g,n,cs,hv,hE,hi,hn,hB,hfz⟩
   ·simp only at hnil hl0
    subst hnil
    rw[hl0,List.nil_append]at Y
    have rH:=(O.mono (Nat.le_succ k)).new (by omega) 0 (by simp[nA]) (sz:=4) rfl [.s u.nm,.i .i64 y.op,.i .i64 y.num,h] rfl _ yA
    simp only[qA,seval,mf,repl,iY,iC,kV,kD,mC,I,J,I0,Hd,Qw,K,iR,iS,hw,iu,qI,rv,kg.kept1,vv.froz1,lX,lY,jF,mn,jA,mP,sF,Fo,hro]
    refine⟨_,rfl,_,_,jO R R.length ⟨1,.cells [.s u.nm,.i .i64 y.op,.i .i64 y.num,h] 0 false⟩,jM,.isl .S (R.length+7) 1 0 1 4,F,H,rfl,oq,(by rw[Y,Z,s3];exact rH), ?_, ?_, ?_, ?_, ?_, ?_, ?_, ?_, ?_⟩
    all_goals (simp only[qA,seval,I,J,I0,Hd,V,W,X])
   ·simp only at hv
    subst hv
    have pA:=O.app 0 (by simp[nA]) (sz:=4) rfl rfl hE hi hn hB [.s u.nm,.i .i64 y.op,.i .i64 y.num,h] rfl _ (hfz.app4 (u.nm,y) [.s u.nm,.i .i64 y.op,.i .i64 y.num,h] WB (by show y.sz≤1000;omega)) (g+1)
    have vS:(n+1)*56≤roomy:=Wt (by omega)
    simp only[qA,seval,mf,repl,iY,iC,kV,kD,mC,I,J,I0,Hd,Qw,K,iR,iS,hw,iu,qI,rv,kg.kept1,vv.froz1,lX,lY,jF,mq,jA,mQ,kU,EF,sF,Fo,hE,hn,vS]
    refine⟨_,rfl,_,_,jO R i ⟨g+1,.cells (cs++ [.s u.nm,.i .i64 y.op,.i .i64 y.num,h]) 0 false⟩,jM,.isl .S (i+7) (g+1) 0 (n+1) 4,F,H,rfl,oq,(by rw[Y,Z,s3];exact pA), ?_, ?_, ?_, ?_, ?_, ?_, ?_, ?_, ?_⟩
    all_goals (simp only[qA,seval,I,J,I0,Hd,V,W,X])
  ·have U:=O.1 (4,F,yC c 2 k) (by simp[nA])
   rw[if_pos nQ]at Z
   rw[if_neg (by rw[nQ];decide)]at Y s3
   rcases U with⟨hnil,hl0⟩|⟨i,g,n,cs,hv,hE,hi,hn,hB,hfz⟩
   ·simp only at hnil hl0
    subst hnil
    rw[hl0,List.nil_append]at Z
    have rH:=(O.mono (Nat.le_succ k)).new (by omega) 1 (by simp[nA]) (sz:=4) rfl [.s u.nm,.i .i64 y.op,.i .i64 y.num,h] rfl _ yA
    simp only[qA,seval,mf,repl,iY,iC,kV,kD,mC,I,J,I0,Hd,Qw,K,iR,iS,hw,iu,qI,rv,kg.kept1,vv.froz1,lX,lY,jF,mn,jA,mP,sF,Fo,hro]
    refine⟨_,rfl,_,_,jO R R.length ⟨1,.cells [.s u.nm,.i .i64 y.op,.i .i64 y.num,h] 0 false⟩,jM,D,.isl .S (R.length+7) 1 0 1 4,H,rfl,oq,(by rw[Y,Z,s3];exact rH), ?_, ?_, ?_, ?_, ?_, ?_, ?_, ?_, ?_⟩
    all_goals (simp only[qA,seval,I,J,I0,Hd,V,W,X])
   ·simp only at hv
    subst hv
    have pA:=O.app 1 (by simp[nA]) (sz:=4) rfl rfl hE hi hn hB [.s u.nm,.i .i64 y.op,.i .i64 y.num,h] rfl _ (hfz.app4 (u.nm,y) [.s u.nm,.i .i64 y.op,.i .i64 y.num,h] WB (by show y.sz≤1000;omega)) (g+1)
    have vS:(n+1)*56≤roomy:=Wt (by omega)
    simp only[qA,seval,mf,repl,iY,iC,kV,kD,mC,I,J,I0,Hd,Qw,K,iR,iS,hw,iu,qI,rv,kg.kept1,vv.froz1,lX,lY,jF,mq,jA,mQ,kU,EF,sF,Fo,hE,hn,vS]
    refine⟨_,rfl,_,_,jO R i ⟨g+1,.cells (cs++ [.s u.nm,.i .i64 y.op,.i .i64 y.num,h]) 0 false⟩,jM,D,.isl .S (i+7) (g+1) 0 (n+1) 4,H,rfl,oq,(by rw[Y,Z,s3];exact pA), ?_, ?_, ?_, ?_, ?_, ?_, ?_, ?_, ?_⟩
    all_goals (simp only[qA,seval,I,J,I0,Hd,V,W,X])
  ·have U:=O.1 (4,H,yC c 3 k) (by simp[nA])
   rw[if_pos nQ]at s3
   rw[if_neg (by rw[nQ];decide)]at Y Z
   rcases U with⟨hnil,hl0⟩|⟨i,g,n,cs,hv,hE,hi,hn,hB,hfz⟩
   ·simp only at hnil hl0
    subst hnil
    rw[hl0,List.nil_append]at s3
    have rH:=(O.mono (Nat.le_succ k)).new (by omega) 2 (by simp[nA]) (sz:=4) rfl [.s u.nm,.i .i64 y.op,.i .i64 y.num,h] rfl _ yA
    simp only[qA,seval,mf,repl,iY,iC,kV,kD,mC,I,J,I0,Hd,Qw,K,iR,iS,hw,iu,qI,rv,kg.kept1,vv.froz1,lX,lY,jF,mn,jA,mP,sF,Fo,hro]
    refine⟨_,rfl,_,_,jO R R.length ⟨1,.cells [.s u.nm,.i .i64 y.op,.i .i64 y.num,h] 0 false⟩,jM,D,F,.isl .S (R.length+7) 1 0 1 4,rfl,oq,(by rw[Y,Z,s3];exact rH), ?_, ?_, ?_, ?_, ?_, ?_, ?_, ?_, ?_⟩
    all_goals (simp only[qA,seval,I,J,I0,Hd,V,W,X])
   ·simp only at hv
    subst hv
    have pA:=O.app 2 (by simp[nA]) (sz:=4) rfl rfl hE hi hn hB [.s u.nm,.i .i64 y.op,.i .i64 y.num,h] rfl _ (hfz.app4 (u.nm,y) [.s u.nm,.i .i64 y.op,.i .i64 y.num,h] WB (by show y.sz≤1000;omega)) (g+1)
    have vS:(n+1)*56≤roomy:=Wt (by omega)
    simp only[qA,seval,mf,repl,iY,iC,kV,kD,mC,I,J,I0,Hd,Qw,K,iR,iS,hw,iu,qI,rv,kg.kept1,vv.froz1,lX,lY,jF,mq,jA,mQ,kU,EF,sF,Fo,hE,hn,vS]
    refine⟨_,rfl,_,_,jO R i ⟨g+1,.cells (cs++ [.s u.nm,.i .i64 y.op,.i .i64 y.num,h]) 0 false⟩,jM,D,F,.isl .S (i+7) (g+1) 0 (n+1) 4,rfl,oq,(by rw[Y,Z,s3];exact pA), ?_, ?_, ?_, ?_, ?_, ?_, ?_, ?_, ?_⟩
    all_goals (simp only[qA,seval,I,J,I0,Hd,V,W,X])
 ·rintro _ ⟨fr,jG,R,kn,D,F,H,rfl,ph,O,I,J,I0,Hd,Qw,V,W,X,K⟩
  simp only[qA,seval,mC,Hd,Qw,Int.lt_irrefl]
  exact⟨_,_,qH,rfl,rfl,V,W,X,R,kn,D,F,H,rfl,ph,O.mono (by omega),K⟩
theorem G5:40≤roomy:=by unfold roomy;omega
theorem Bd{n:Nat}(h:n≤1000):(n+1)*40≤roomy:=by unfold roomy;omega
theorem tw{a b c x y z:T}:splice [a,b,c] 0 [x,y,z]= [x,y,z]:=rfl
theorem mR{a b c x y z:T}: ∀(cs:List T),splice (cs++ [a,b,c]) cs.length [x,y,z]=cs++ [x,y,z]
 | []=>rfl
 |u::cs=>by rw[List.cons_append,List.cons_append,List.length_cons,splice,mR cs]
theorem tA{cs:List T}{a b c:T}:(cs++ [a,b,c]).length=cs.length+3:=by simp
theorem aqr(c:Ct)(h V W X Y Z zT aT fT nb r1 r2 r3 c2 c3:T)(m:List (List Nat×Nat))(kn jM:List (Nat×Int))(R:List ib)(x:Ex)(b:T)(y:Fm)(H:T)(AD:Nat)(fr:Fr)(lh:iz ib)
  (QI:froz1 b=true) (Be:kept1 b=true) (D:froz1 H=true) (MB:kept1 H=true)
  (iu:hZ pE 32 [.ptr .S 2 1 0,.i .i64 1,.agg [.i .i64 x.op,.i .i64 x.num,.s x.name,b]] (lp h m kn R)=some (.agg [.i .i64 y.op,.i .i64 y.num,H],lp h m jM R))
  (h8:an fr 8= .ptr .L 37 1 0) (jN:an fr 14= .ptr .S 2 1 0) (oj:an fr 18= .ptr .L 18 AD 0) (Bf:a6 lh 18=⟨AD,.cells [.i .i64 1,.i .i64 x.op,.i .i64 x.num,.s x.name,b] 0 true⟩) (I:a6 lh 37=⟨1,.cells (ma zT aT fT c h V W X Y Z (mB r1 r2 r3 (.nilsl) c2 c3 .nilsl nb)) 0 true⟩) (J:ic) (K:J=rb jl∨J=re jl):
  ∃f1 N,DC pE 232 J ⟨fr,lh,lp h m kn R⟩=some (.nrm,⟨f1,N,lp h m jM (jO R R.length ⟨1,.cells [.i .i64 y.op,.i .i64 y.num,H] 0 false⟩)⟩)∧(∀k,(jV jl).contains k=false→k≠37→a6 N k=a6 lh k)∧a6 N 37=⟨1,.cells (ma zT aT fT c h V W X Y Z (mB r1 r2 r3 (.isl .S (R.length+7) 1 0 1 3) c2 c3 .nilsl nb)) 0 true⟩:=by
 have F:=G5
 unfold ma jf mB at I ⊢
 simp only[List.cons_append,List.nil_append]at I ⊢
 rcases K with rfl|rfl
 ·
  simp only[qA,seval,mf,repl,iY,iC,kV,nl,kD,jl,rb,h8,jN,oj,Bf,I,iu,qI,rv,Be,D,lX,lY,jF,mn,jA,mP,EF,sF,Fo,F,jK,j0,tw,Nat.lt_succ_self]
  refine⟨_,_,rfl, ?_, ?_⟩
  ·intro k O Dm
   have U:k≠111:=by rintro rfl;exact absurd O (by decide)
   repeat (first|rw[jg _ _ Dm]|rw[jg _ _ U])
  ·simp only[qA,seval]
 ·
  simp only[qA,seval,mf,repl,iY,iC,kV,nl,kD,jl,re,h8,jN,oj,Bf,I,iu,qI,rv,Be,D,lX,lY,jF,mn,jA,mP,EF,sF,Fo,F,jK,j0,tw,Nat.lt_succ_self]
  refine⟨_,_,rfl, ?_, ?_⟩
  ·intro k O Dm
   have U:k≠111:=by rintro rfl;exact absurd O (by decide)
   repeat (first|rw[jg _ _ Dm]|rw[jg _ _ U])
  ·simp only[qA,seval]
theorem aqs(c:Ct)(h U V W X Y Z aT fT nb r1 r2 r3 c2 c3:T)(m:List (List Nat×Nat))(kn jM:List (Nat×Int))(R:List ib)(x:Ex)(b:T)(y:Fm)(F:T)(AD:Nat)(i g n:Nat)(cs:List T)(hE:jr R i=⟨g,.cells cs 0 false⟩)(hn:n*3=cs.length)(FQ:n≤1000)(fr:Fr)(lh:iz ib)
  (QI:froz1 b=true) (Be:kept1 b=true) (D:froz1 F=true) (MB:kept1 F=true)
  (iu:hZ pE 32 [.ptr .S 2 1 0,.i .i64 1,.agg [.i .i64 x.op,.i .i64 x.num,.s x.name,b]] (lp h m kn R)=some (.agg [.i .i64 y.op,.i .i64 y.num,F],lp h m jM R))
  (h8:an fr 8= .ptr .L 37 1 0) (jN:an fr 14= .ptr .S 2 1 0) (oj:an fr 18= .ptr .L 18 AD 0) (Bf:a6 lh 18=⟨AD,.cells [.i .i64 1,.i .i64 x.op,.i .i64 x.num,.s x.name,b] 0 true⟩) (H:a6 lh 37=⟨1,.cells (ma Z aT fT c h U V W X Y (mB r1 r2 r3 (.isl .S (i+7) g 0 n 3) c2 c3 .nilsl nb)) 0 true⟩) (I:ic) (J:I=rb jl∨I=re jl):
  ∃f1 K,DC pE 232 I ⟨fr,lh,lp h m kn R⟩=some (.nrm,⟨f1,K,lp h m jM (jO R i ⟨g+1,.cells (cs++ [.i .i64 y.op,.i .i64 y.num,F]) 0 false⟩)⟩)∧(∀k,(jV jl).contains k=false→k≠37→a6 K k=a6 lh k)∧a6 K 37=⟨1,.cells (ma Z aT fT c h U V W X Y (mB r1 r2 r3 (.isl .S (i+7) (g+1) 0 (n+1) 3) c2 c3 .nilsl nb)) 0 true⟩:=by
 have vS:(n+1)*40≤roomy:=Bd FQ
 unfold ma jf mB at H ⊢
 simp only[List.cons_append,List.nil_append]at H ⊢
 rcases J with rfl|rfl
 ·
  simp only[qA,seval,mf,repl,iY,iC,kV,nl,kD,jl,rb,h8,jN,oj,Bf,H,iu,qI,rv,Be,D,lX,lY,jF,mq,jA,mQ,kU,EF,sF,Fo,jK,j0,mR,tA,Nat.lt_succ_self,hE,hn,vS]
  refine⟨_,_,rfl, ?_, ?_⟩
  ·intro k N Dm
   have O:k≠111:=by rintro rfl;exact absurd N (by decide)
   repeat (first|rw[jg _ _ Dm]|rw[jg _ _ O])
  ·simp only[qA,seval]
 ·
  simp only[qA,seval,mf,repl,iY,iC,kV,nl,kD,jl,re,h8,jN,oj,Bf,H,iu,qI,rv,Be,D,lX,lY,jF,mq,jA,mQ,kU,EF,sF,Fo,jK,j0,mR,tA,Nat.lt_succ_self,hE,hn,vS]
  refine⟨_,_,rfl, ?_, ?_⟩
  ·intro k N Dm
   have O:k≠111:=by rintro rfl;exact absurd N (by decide)
   repeat (first|rw[jg _ _ Dm]|rw[jg _ _ O])
  ·simp only[qA,seval]
theorem aqt(c:Ct)(h V W X Y Z zT aT fT nb r1 r2 r3 c1 c3:T)(m:List (List Nat×Nat))(kn jM:List (Nat×Int))(R:List ib)(x:Ex)(b:T)(y:Fm)(H:T)(AD:Nat)(fr:Fr)(lh:iz ib)
  (QI:froz1 b=true) (Be:kept1 b=true) (D:froz1 H=true) (MB:kept1 H=true)
  (iu:hZ pE 32 [.ptr .S 2 1 0,.i .i64 2,.agg [.i .i64 x.op,.i .i64 x.num,.s x.name,b]] (lp h m kn R)=some (.agg [.i .i64 y.op,.i .i64 y.num,H],lp h m jM R))
  (h8:an fr 8= .ptr .L 37 1 0) (jN:an fr 14= .ptr .S 2 1 0) (oj:an fr 18= .ptr .L 18 AD 0) (Bf:a6 lh 18=⟨AD,.cells [.i .i64 2,.i .i64 x.op,.i .i64 x.num,.s x.name,b] 0 true⟩) (I:a6 lh 37=⟨1,.cells (ma zT aT fT c h V W X Y Z (mB r1 r2 r3 c1 (.nilsl) c3 .nilsl nb)) 0 true⟩) (J:ic) (K:J=rb jl∨J=re jl):
  ∃f1 N,DC pE 232 J ⟨fr,lh,lp h m kn R⟩=some (.nrm,⟨f1,N,lp h m jM (jO R R.length ⟨1,.cells [.i .i64 y.op,.i .i64 y.num,H] 0 false⟩)⟩)∧(∀k,(jV jl).contains k=false→k≠37→a6 N k=a6 lh k)∧a6 N 37=⟨1,.cells (ma zT aT fT c h V W X Y Z (mB r1 r2 r3 c1 (.isl .S (R.length+7) 1 0 1 3) c3 .nilsl nb)) 0 true⟩:=by
 have F:=G5
 unfold ma jf mB at I ⊢
 simp only[List.cons_append,List.nil_append]at I ⊢
 rcases K with rfl|rfl
 ·
  simp only[qA,seval,mf,repl,iY,iC,kV,nl,kD,jl,rb,h8,jN,oj,Bf,I,iu,qI,rv,Be,D,lX,lY,jF,mn,jA,mP,EF,sF,Fo,F,jK,j0,tw,Nat.lt_succ_self]
  refine⟨_,_,rfl, ?_, ?_⟩
  ·intro k O Dm
   have U:k≠111:=by rintro rfl;exact absurd O (by decide)
   repeat (first|rw[jg _ _ Dm]|rw[jg _ _ U])
  ·simp only[qA,seval]
 ·
  simp only[qA,seval,mf,repl,iY,iC,kV,nl,kD,jl,re,h8,jN,oj,Bf,I,iu,qI,rv,Be,D,lX,lY,jF,mn,jA,mP,EF,sF,Fo,F,jK,j0,tw,Nat.lt_succ_self]
  refine⟨_,_,rfl, ?_, ?_⟩
  ·intro k O Dm
   have U:k≠111:=by rintro rfl;exact absurd O (by decide)
   repeat (first|rw[jg _ _ Dm]|rw[jg _ _ U])
  ·simp only[qA,seval]
theorem aqu(c:Ct)(h U V W X Y Z aT fT nb r1 r2 r3 c1 c3:T)(m:List (List Nat×Nat))(kn jM:List (Nat×Int))(R:List ib)(x:Ex)(b:T)(y:Fm)(F:T)(AD:Nat)(i g n:Nat)(cs:List T)(hE:jr R i=⟨g,.cells cs 0 false⟩)(hn:n*3=cs.length)(FQ:n≤1000)(fr:Fr)(lh:iz ib)
  (QI:froz1 b=true) (Be:kept1 b=true) (D:froz1 F=true) (MB:kept1 F=true)
  (iu:hZ pE 32 [.ptr .S 2 1 0,.i .i64 2,.agg [.i .i64 x.op,.i .i64 x.num,.s x.name,b]] (lp h m kn R)=some (.agg [.i .i64 y.op,.i .i64 y.num,F],lp h m jM R))
  (h8:an fr 8= .ptr .L 37 1 0) (jN:an fr 14= .ptr .S 2 1 0) (oj:an fr 18= .ptr .L 18 AD 0) (Bf:a6 lh 18=⟨AD,.cells [.i .i64 2,.i .i64 x.op,.i .i64 x.num,.s x.name,b] 0 true⟩) (H:a6 lh 37=⟨1,.cells (ma Z aT fT c h U V W X Y (mB r1 r2 r3 c1 (.isl .S (i+7) g 0 n 3) c3 .nilsl nb)) 0 true⟩) (I:ic) (J:I=rb jl∨I=re jl):
  ∃f1 K,DC pE 232 I ⟨fr,lh,lp h m kn R⟩=some (.nrm,⟨f1,K,lp h m jM (jO R i ⟨g+1,.cells (cs++ [.i .i64 y.op,.i .i64 y.num,F]) 0 false⟩)⟩)∧(∀k,(jV jl).contains k=false→k≠37→a6 K k=a6 lh k)∧a6 K 37=⟨1,.cells (ma Z aT fT c h U V W X Y (mB r1 r2 r3 c1 (.isl .S (i+7) (g+1) 0 (n+1) 3) c3 .nilsl nb)) 0 true⟩:=by
 have vS:(n+1)*40≤roomy:=Bd FQ
 unfold ma jf mB at H ⊢
 simp only[List.cons_append,List.nil_append]at H ⊢
 rcases J with rfl|rfl
 ·
  simp only[qA,seval,mf,repl,iY,iC,kV,nl,kD,jl,rb,h8,jN,oj,Bf,H,iu,qI,rv,Be,D,lX,lY,jF,mq,jA,mQ,kU,EF,sF,Fo,jK,j0,mR,tA,Nat.lt_succ_self,hE,hn,vS]
  refine⟨_,_,rfl, ?_, ?_⟩
  ·intro k N Dm
   have O:k≠111:=by rintro rfl;exact absurd N (by decide)
   repeat (first|rw[jg _ _ Dm]|rw[jg _ _ O])
  ·simp only[qA,seval]
 ·
  simp only[qA,seval,mf,repl,iY,iC,kV,nl,kD,jl,re,h8,jN,oj,Bf,H,iu,qI,rv,Be,D,lX,lY,jF,mq,jA,mQ,kU,EF,sF,Fo,jK,j0,mR,tA,Nat.lt_succ_self,hE,hn,vS]
  refine⟨_,_,rfl, ?_, ?_⟩
  ·intro k N Dm
   have O:k≠111:=by rintro rfl;exact absurd N (by decide)
   repeat (first|rw[jg _ _ Dm]|rw[jg _ _ O])
  ·simp only[qA,seval]
theorem aqv(c:Ct)(h V W X Y Z zT aT fT nb r1 r2 r3 c1 c2:T)(m:List (List Nat×Nat))(kn jM:List (Nat×Int))(R:List ib)(x:Ex)(b:T)(y:Fm)(H:T)(AD:Nat)(fr:Fr)(lh:iz ib)
  (QI:froz1 b=true) (Be:kept1 b=true) (D:froz1 H=true) (MB:kept1 H=true)
  (iu:hZ pE 32 [.ptr .S 2 1 0,.i .i64 3,.agg [.i .i64 x.op,.i .i64 x.num,.s x.name,b]] (lp h m kn R)=some (.agg [.i .i64 y.op,.i .i64 y.num,H],lp h m jM R))
  (h8:an fr 8= .ptr .L 37 1 0) (jN:an fr 14= .ptr .S 2 1 0) (oj:an fr 18= .ptr .L 18 AD 0) (Bf:a6 lh 18=⟨AD,.cells [.i .i64 3,.i .i64 x.op,.i .i64 x.num,.s x.name,b] 0 true⟩) (I:a6 lh 37=⟨1,.cells (ma zT aT fT c h V W X Y Z (mB r1 r2 r3 c1 c2 (.nilsl) .nilsl nb)) 0 true⟩) (J:ic) (K:J=rb jl∨J=re jl):
  ∃f1 N,DC pE 232 J ⟨fr,lh,lp h m kn R⟩=some (.nrm,⟨f1,N,lp h m jM (jO R R.length ⟨1,.cells [.i .i64 y.op,.i .i64 y.num,H] 0 false⟩)⟩)∧(∀k,(jV jl).contains k=false→k≠37→a6 N k=a6 lh k)∧a6 N 37=⟨1,.cells (ma zT aT fT c h V W X Y Z (mB r1 r2 r3 c1 c2 (.isl .S (R.length+7) 1 0 1 3) .nilsl nb)) 0 true⟩:=by
 have F:=G5
 unfold ma jf mB at I ⊢
 simp only[List.cons_append,List.nil_append]at I ⊢
 rcases K with rfl|rfl
 ·
  simp only[qA,seval,mf,repl,iY,iC,kV,nl,kD,jl,rb,h8,jN,oj,Bf,I,iu,qI,rv,Be,D,lX,lY,jF,mn,jA,mP,EF,sF,Fo,F,jK,j0,tw,Nat.lt_succ_self]
  refine⟨_,_,rfl, ?_, ?_⟩
  ·intro k O Dm
   have U:k≠111:=by rintro rfl;exact absurd O (by decide)
   repeat (first|rw[jg _ _ Dm]|rw[jg _ _ U])
  ·simp only[qA,seval]
 ·
  simp only[qA,seval,mf,repl,iY,iC,kV,nl,kD,jl,re,h8,jN,oj,Bf,I,iu,qI,rv,Be,D,lX,lY,jF,mn,jA,mP,EF,sF,Fo,F,jK,j0,tw,Nat.lt_succ_self]
  refine⟨_,_,rfl, ?_, ?_⟩
  ·intro k O Dm
   have U:k≠111:=by rintro rfl;exact absurd O (by decide)
   repeat (first|rw[jg _ _ Dm]|rw[jg _ _ U])
  ·simp only[qA,seval]
theorem aqw(c:Ct)(h U V W X Y Z aT fT nb r1 r2 r3 c1 c2:T)(m:List (List Nat×Nat))(kn jM:List (Nat×Int))(R:List ib)(x:Ex)(b:T)(y:Fm)(F:T)(AD:Nat)(i g n:Nat)(cs:List T)(hE:jr R i=⟨g,.cells cs 0 false⟩)(hn:n*3=cs.length)(FQ:n≤1000)(fr:Fr)(lh:iz ib)
  (QI:froz1 b=true) (Be:kept1 b=true) (D:froz1 F=true) (MB:kept1 F=true)
  (iu:hZ pE 32 [.ptr .S 2 1 0,.i .i64 3,.agg [.i .i64 x.op,.i .i64 x.num,.s x.name,b]] (lp h m kn R)=some (.agg [.i .i64 y.op,.i .i64 y.num,F],lp h m jM R))
  (h8:an fr 8= .ptr .L 37 1 0) (jN:an fr 14= .ptr .S 2 1 0) (oj:an fr 18= .ptr .L 18 AD 0) (Bf:a6 lh 18=⟨AD,.cells [.i .i64 3,.i .i64 x.op,.i .i64 x.num,.s x.name,b] 0 true⟩) (H:a6 lh 37=⟨1,.cells (ma Z aT fT c h U V W X Y (mB r1 r2 r3 c1 c2 (.isl .S (i+7) g 0 n 3) .nilsl nb)) 0 true⟩) (I:ic) (J:I=rb jl∨I=re jl):
  ∃f1 K,DC pE 232 I ⟨fr,lh,lp h m kn R⟩=some (.nrm,⟨f1,K,lp h m jM (jO R i ⟨g+1,.cells (cs++ [.i .i64 y.op,.i .i64 y.num,F]) 0 false⟩)⟩)∧(∀k,(jV jl).contains k=false→k≠37→a6 K k=a6 lh k)∧a6 K 37=⟨1,.cells (ma Z aT fT c h U V W X Y (mB r1 r2 r3 c1 c2 (.isl .S (i+7) (g+1) 0 (n+1) 3) .nilsl nb)) 0 true⟩:=by
 have vS:(n+1)*40≤roomy:=Bd FQ
 unfold ma jf mB at H ⊢
 simp only[List.cons_append,List.nil_append]at H ⊢
 rcases J with rfl|rfl
 ·
  simp only[qA,seval,mf,repl,iY,iC,kV,nl,kD,jl,rb,h8,jN,oj,Bf,H,iu,qI,rv,Be,D,lX,lY,jF,mq,jA,mQ,kU,EF,sF,Fo,jK,j0,mR,tA,Nat.lt_succ_self,hE,hn,vS]
  refine⟨_,_,rfl, ?_, ?_⟩
  ·intro k N Dm
   have O:k≠111:=by rintro rfl;exact absurd N (by decide)
   repeat (first|rw[jg _ _ Dm]|rw[jg _ _ O])
  ·simp only[qA,seval]
 ·
  simp only[qA,seval,mf,repl,iY,iC,kV,nl,kD,jl,re,h8,jN,oj,Bf,H,iu,qI,rv,Be,D,lX,lY,jF,mq,jA,mQ,kU,EF,sF,Fo,jK,j0,mR,tA,Nat.lt_succ_self,hE,hn,vS]
  refine⟨_,_,rfl, ?_, ?_⟩
  ·intro k N Dm
   have O:k≠111:=by rintro rfl;exact absurd N (by decide)
   repeat (first|rw[jg _ _ Dm]|rw[jg _ _ O])
  ·simp only[qA,seval]
theorem sG{fr:Fr}{lh:iz ib}{sh SH:List ib}{X:ib}(A: ∀I,(I=rb jl∨I=re jl)→ ∃J F,DC pE 232 I ⟨fr,lh,sh⟩=some (.nrm,⟨J,F,SH⟩)∧(∀k,(jV jl).contains k=false→k≠37→a6 F k=a6 lh k)∧a6 F 37=X):
  ∃H D,DC pE 232 jl ⟨fr,lh,sh⟩=some (.nrm,⟨H,D,SH⟩)∧(∀k,(jV jl).contains k=false→an H k=an fr k)∧(∀k,(jV jl).contains k=false→k≠37→a6 D k=a6 lh k)∧a6 D 37=X:=by
 obtain⟨J,F,W,K,N⟩:=A _ (.inl rfl)
 obtain⟨f2,l2,Y,Z,x2⟩:=A _ (.inr rfl)
 obtain⟨H,D,q1,q2,O⟩:=Zg (by rfl) W Y (fun k U=>by
  by_cases h:k=37
  ·subst h;rw[N,x2]
  ·rw[K k U h,Z k U h])
 exact⟨H,D,q1,q2,fun j V h=>(O j V).trans (K j V h),(O 37 (by decide)).trans N⟩
theorem axh{fr:Fr}{lh:iz ib}{D:Option (Out×St)}(c:Ct)(J a8 a9 iv iw iy zT aT fT nb Y Z r3 K N O:T)(m:List (List Nat×Nat))(kn jM:List (Nat×Int))(R:List ib)(x:Ex)(b:T)(y:Fm)(h:T)(AD:Nat)(sc:Int)(k:Nat)(nQ:sc=1∨sc=2∨sc=3)(hk:k≤900)(l1 l2 l3 k1 k2 k3:RL)(pP:lq R k (nA Y Z r3 K N O .nilsl l1 l2 l3 k1 k2 k3 []))(hy:og y [.i .i64 y.op,.i .i64 y.num,h])(hsz:y.sz≤1000)
  (QI:froz1 b=true) (Be:kept1 b=true) (I:froz1 h=true) (MB:kept1 h=true)
  (iu:hZ pE 32 [.ptr .S 2 1 0,.i .i64 sc,.agg [.i .i64 x.op,.i .i64 x.num,.s x.name,b]] (lp J m kn R)=some (.agg [.i .i64 y.op,.i .i64 y.num,h],lp J m jM R))
  (hD:DC pE 232 jl ⟨fr,lh,lp J m kn R⟩=D)
  (h8:an fr 8= .ptr .L 37 1 0) (jN:an fr 14= .ptr .S 2 1 0) (oj:an fr 18= .ptr .L 18 AD 0) (Bf:a6 lh 18=⟨AD,.cells [.i .i64 sc,.i .i64 x.op,.i .i64 x.num,.s x.name,b] 0 true⟩) (jR:a6 lh 37=⟨1,.cells (ma zT aT fT c J a8 a9 iv iw iy (mB Y Z r3 K N O .nilsl nb)) 0 true⟩):
  ∃H F R' c1' c2' c3',D=some (.nrm,⟨H,F,lp J m jM R'⟩)∧lq R' (k+1) (nA Y Z r3 c1' c2' c3' .nilsl l1 l2 l3 (if sc=1 then k1++ [([],y)]else k1) (if sc=2 then k2++ [([],y)]else k2) (if sc=3 then k3++ [([],y)]else k3) [])∧(∀k,(jV jl).contains k=false→an H k=an fr k)∧(∀k,(jV jl).contains k=false→k≠37→a6 F k=a6 lh k)∧a6 F 37=⟨1,.cells (ma zT aT fT c J a8 a9 iv iw iy (mB Y Z r3 c1' c2' c3' .nilsl nb)) 0 true⟩:=by
 have yA:yD 3 [([],y)] [.i .i64 y.op,.i .i64 y.num,h]:=by
  have:=(yD.nil 3).app3 ([],y) _ hy hsz
  simpa using this
 rcases nQ with rfl|rfl|rfl
 ·rcases pP.1 (3,K,k1) (by simp[nA])with⟨hnil,hl0⟩|⟨i,g,n,cs,hv,hE,hi,hn,hB,Wv⟩
  ·simp only at hnil hl0
   subst hnil hl0
   have rH:=(pP.mono (Nat.le_succ k)).new (by omega) 3 (by simp[nA]) (sz:=3) rfl [.i .i64 y.op,.i .i64 y.num,h] rfl _ yA
   obtain⟨H,F,U,V,W,X⟩:=sG (aqr c J a8 a9 iv iw iy zT aT fT nb Y Z r3 N O m kn jM R x b y h AD fr lh QI Be I MB iu h8 jN oj Bf jR)
   exact⟨H,F,_,_,N,O,hD.symm.trans U,rH,V,W,X⟩
  ·simp only at hv
   subst hv
   have pA:=pP.app 3 (by simp[nA]) (sz:=3) rfl rfl hE hi hn hB [.i .i64 y.op,.i .i64 y.num,h] rfl _ (Wv.app3 ([],y) _ hy hsz) (g+1)
   obtain⟨H,F,U,V,W,X⟩:=sG (aqs c J a8 a9 iv iw iy zT aT fT nb Y Z r3 N O m kn jM R x b y h AD i g n cs hE hn (by omega) fr lh QI Be I MB iu h8 jN oj Bf jR)
   exact⟨H,F,_,_,N,O,hD.symm.trans U,pA,V,W,X⟩
 ·rcases pP.1 (3,N,k2) (by simp[nA])with⟨hnil,hl0⟩|⟨i,g,n,cs,hv,hE,hi,hn,hB,Wv⟩
  ·simp only at hnil hl0
   subst hnil hl0
   have rH:=(pP.mono (Nat.le_succ k)).new (by omega) 4 (by simp[nA]) (sz:=3) rfl [.i .i64 y.op,.i .i64 y.num,h] rfl _ yA
   obtain⟨H,F,U,V,W,X⟩:=sG (aqt c J a8 a9 iv iw iy zT aT fT nb Y Z r3 K O m kn jM R x b y h AD fr lh QI Be I MB iu h8 jN oj Bf jR)
   exact⟨H,F,_,K,_,O,hD.symm.trans U,rH,V,W,X⟩
  ·simp only at hv
   subst hv
   have pA:=pP.app 4 (by simp[nA]) (sz:=3) rfl rfl hE hi hn hB [.i .i64 y.op,.i .i64 y.num,h] rfl _ (Wv.app3 ([],y) _ hy hsz) (g+1)
   obtain⟨H,F,U,V,W,X⟩:=sG (aqu c J a8 a9 iv iw iy zT aT fT nb Y Z r3 K O m kn jM R x b y h AD i g n cs hE hn (by omega) fr lh QI Be I MB iu h8 jN oj Bf jR)
   exact⟨H,F,_,K,_,O,hD.symm.trans U,pA,V,W,X⟩
 ·rcases pP.1 (3,O,k3) (by simp[nA])with⟨hnil,hl0⟩|⟨i,g,n,cs,hv,hE,hi,hn,hB,Wv⟩
  ·simp only at hnil hl0
   subst hnil hl0
   have rH:=(pP.mono (Nat.le_succ k)).new (by omega) 5 (by simp[nA]) (sz:=3) rfl [.i .i64 y.op,.i .i64 y.num,h] rfl _ yA
   obtain⟨H,F,U,V,W,X⟩:=sG (aqv c J a8 a9 iv iw iy zT aT fT nb Y Z r3 K N m kn jM R x b y h AD fr lh QI Be I MB iu h8 jN oj Bf jR)
   exact⟨H,F,_,K,N,_,hD.symm.trans U,rH,V,W,X⟩
  ·simp only at hv
   subst hv
   have pA:=pP.app 5 (by simp[nA]) (sz:=3) rfl rfl hE hi hn hB [.i .i64 y.op,.i .i64 y.num,h] rfl _ (Wv.app3 ([],y) _ hy hsz) (g+1)
   obtain⟨H,F,U,V,W,X⟩:=sG (aqw c J a8 a9 iv iw iy zT aT fT nb Y Z r3 K N m kn jM R x b y h AD i g n cs hE hn (by omega) fr lh QI Be I MB iu h8 jN oj Bf jR)
   exact⟨H,F,_,K,N,_,hD.symm.trans U,pA,V,W,X⟩
theorem nwc(c:Ct)(h J:T)(c7 c9:List T)(i7:IsSl h c.cs.length c7)(j7:kN c.cs c7)(i9:IsSl J c.co.length c9)(j9:iB CoR c.co c9)(hlen:c.co.length≤40)(zC: ∀u∈c.co,J7 c.cs u.sc u.x)(Y Z fT a8 iv iw iy nb K N O:T)(k2 k3 tY:ib)(CI:List (Nat×Int))(zD:oi c.cs CI)(R0:List ib)(l1 l2 l3:RL)(Hb:lq R0 40 (nA K N O .nilsl .nilsl .nilsl .nilsl l1 l2 l3 [] [] [] []))(fr:Fr)(lh:iz ib)(sh:List ib)(lC:sh=lp h (jo c.cs c.cs.length) CI R0)
  (h8:an fr 8= .ptr .L 37 1 0) (jN:an fr 14= .ptr .S 2 1 0) (Lb:an fr 105=J) (I1:an fr 106= .i .i64 (c.co.length:Int)) (I2:an fr 107= .i .i64 0) (o2:a6 lh 2=k2) (o3:a6 lh 3=k3) (mj:a6 lh 35=tY) (jR:a6 lh 37=⟨1,.cells (ma Y Z fT c h a8 J iv iw iy (mB K N O .nilsl .nilsl .nilsl .nilsl nb)) 0 true⟩):
  rD 232 pk fr lh sh (.ext 6)∧
  (a6 (lZ pE 232 pk fr lh sh) 2=k2∧a6 (lZ pE 232 pk fr lh sh) 3=k3∧a6 (lZ pE 232 pk fr lh sh) 35=tY∧ ∃(R:List ib) (kn:List (Nat×Int)) (F H I:T),ng pE 232 pk fr lh sh=lp h (jo c.cs c.cs.length) kn R∧oi c.cs kn∧lq R 80 (nA K N O F H I .nilsl l1 l2 l3 (AK c 1 c.co.length) (AK c 2 c.co.length) (AK c 3 c.co.length) [])∧a6 (lZ pE 232 pk fr lh sh) 37=⟨1,.cells (ma Y Z fT c h a8 J iv iw iy (mB K N O F H I .nilsl nb)) 0 true⟩):=by
 refine jc (P:=fun X U jb=>a6 U 2=k2∧a6 U 3=k3∧a6 U 35=tY∧ ∃(R:List ib) (kn:List (Nat×Int)) (F H I:T),jb=lp h (jo c.cs c.cs.length) kn R∧oi c.cs kn∧lq R 80 (nA K N O F H I .nilsl l1 l2 l3 (AK c 1 c.co.length) (AK c 2 c.co.length) (AK c 3 c.co.length) [])∧a6 U 37=⟨1,.cells (ma Y Z fT c h a8 J iv iw iy (mB K N O F H I .nilsl nb)) 0 true⟩)
  (jm (fun k st=> ∃(fr:Fr) (V:iz ib) (R:List ib) (kn:List (Nat×Int)) (F H I:T),st=⟨fr,V,lp h (jo c.cs c.cs.length) kn R⟩∧oi c.cs kn∧lq R (40+k) (nA K N O F H I .nilsl l1 l2 l3 (AK c 1 k) (AK c 2 k) (AK c 3 k) [])∧an fr 8= .ptr .L 37 1 0∧an fr 14= .ptr .S 2 1 0∧an fr 105=J∧an fr 106= .i .i64 (c.co.length:Int)∧an fr 107= .i .i64 (k:Int)∧a6 V 2=k2∧a6 V 3=k3∧a6 V 35=tY∧a6 V 37=⟨1,.cells (ma Y Z fT c h a8 J iv iw iy (mB K N O F H I .nilsl nb)) 0 true⟩) _ c.co.length ?_ ?_ 0 _ (Nat.zero_le _) ⟨fr,lh,R0,CI,.nilsl,.nilsl,.nilsl,by rw[lC],zD,Hb,h8,jN,Lb,I1,I2,o2,o3,mj,jR⟩)
 ·rintro k _ hk ⟨fr,V,R,kn,F,H,I,rfl,ph,pP,h8,jN,Lb,I1,I2,o2,o3,mj,jR⟩
  left
  have iR:(k:Int)<c.co.length:=by omega
  have hw:=iM (k:=k) (by omega)
  obtain⟨b,cb,rr,iS,kg,hb⟩:=JO i9 j9 k hk
  obtain⟨nQ,W,t,mV⟩:=zC c.co[k] (List.getElem_mem hk)
  have Dl:=(nL W).1
  obtain⟨cf,jM,iu,zj,oq,_⟩:=GY c.cs h R c.cs.length (Nat.le_refl _) (GZ c.cs h R c7 i7 j7) c.co[k].sc (.inr nQ) c.co[k].x t kn _ ph hb Dl (mM W) (by rw[zN];exact mV)
  have hsz:=Bc (mZ c.cs) c.co[k].sc c.co[k].x
  have s1:=Dk c 1 hk
  have s2:=Dk c 2 hk
  have s3:=Dk c 3 hk
  generalize c.co[k]=u at*
  generalize comp (mZ c.cs) u.sc u.x=y at*
  obtain⟨fa,fc,rfl,vv,MU⟩:=zj.cells
  simp only[qA,seval,pk,Lb,I1,I2,iR,iS]
  generalize hD:DC pE 232 jl _=D
  obtain⟨X,U,R',c1',c2',c3',rfl,hR',q2,q3,q4⟩:=axh c h a8 J iv iw iy Y Z fT nb K N O F H I _ kn jM R u.x b y fa ((a6 V 18).g+1) u.sc (40+k) nQ (by omega) l1 l2 l3 _ _ _ pP zj (by omega) kg.froz1 kg.kept1 vv.froz1 vv.kept1 iu hD (by simp only[qA,seval,h8]) (by simp only[qA,seval,jN]) (by simp only[qA,seval]) (by simp only[qA,seval]) (by simp only[qA,seval,jR])
  rw[←s1,←s2,←s3]at hR'
  have f8:an X 8= .ptr .L 37 1 0:=by rw[q2 8 (by decide)];simp only[qA,seval,h8]
  have f14:an X 14= .ptr .S 2 1 0:=by rw[q2 14 (by decide)];simp only[qA,seval,jN]
  have f105:an X 105=J:=by rw[q2 105 (by decide)];simp only[qA,seval,Lb]
  have f106:an X 106= .i .i64 (c.co.length:Int):=by rw[q2 106 (by decide)];simp only[qA,seval,I1]
  have f107:an X 107= .i .i64 (k:Int):=by rw[q2 107 (by decide)];simp only[qA,seval,I2]
  have p2:a6 U 2=k2:=by rw[q3 2 (by decide) (by decide)];simp only[qA,seval,o2]
  have p3:a6 U 3=k3:=by rw[q3 3 (by decide) (by decide)];simp only[qA,seval,o3]
  have p35:a6 U 35=tY:=by rw[q3 35 (by decide) (by decide)];simp only[qA,seval,mj]
  simp only[qA,seval,f107,hw]
  refine⟨_,rfl,_,_,R',jM,c1',c2',c3',rfl,oq,hR', ?_, ?_, ?_, ?_, ?_, ?_, ?_, ?_, ?_⟩
  all_goals (simp only[qA,seval,f8,f14,f105,f106,p2,p3,p35,q4])
 ·rintro _ ⟨fr,V,R,kn,F,H,I,rfl,ph,pP,h8,jN,Lb,I1,I2,o2,o3,mj,jR⟩
  simp only[qA,seval,pk,I1,I2,Int.lt_irrefl]
  exact⟨_,_,qH,rfl,rfl,o2,o3,mj,R,kn,F,H,I,rfl,ph,pP.mono (by omega),jR⟩
def aaq:T→Bool
 | .ptr .S .. =>true
 |_=>false
theorem uK{k g off:Nat}:aaq (.ptr .S k g off)=true:=nr rfl
def ag9:T→FP
 | .ptr .S k _ _=>⟨false,[(.S,k)],[(.S,k)]⟩
 |_=>oB
section
variable{E:Env}{call:p7}{n:Nat}{fr:Fr}{lh:iz ib}{sh:List ib}{ds:List (List Nat×be)}{jT:List FP}{u:List Nat}
theorem Jh{x v:iD}{m:Nat}(F:aaq (rd fr x)=true)(N:froz (rd fr v)=true):iQ E call n ((u,⟨none,.st x v m,none⟩)::ds) jT ⟨fr,lh,sh⟩=
  if meets u jT (ag9 (rd fr x))=true then ke E call n ds (jT++ [ag9 (rd fr x)]) (ij E call n [⟨none,.st x v m,none⟩] ⟨fr,lh,sh⟩)else none:=by
 refine uB fun J=> ?_
 cases IJ:rd fr x with
 |ptr sp k g off=>
  cases sp with
  |L=>rw[IJ]at F;simp[aaq]at F
  |S=>
   by_cases K:(decide ((cellsOf (rd fr v)).length≠m)|| !noTup (rd fr v))=true
   ·obtain⟨w,I,h,D⟩:=xO (q:= .fail) (by rfl) (by rw[lG];simp only[jk,tP,IJ];rw[if_pos K]) J
    simp[Q.run]at h
   ·obtain⟨w,I,h,D⟩:=xO (q:= .rd .S k (Pv k g off m (rd fr v))) (by rfl) (by rw[lG];simp only[jk,tP,IJ];rw[if_neg K];rfl) J
    simp only[Q.run,Q.log,Q.asks]at h D
    generalize O:(St.mk fr lh sh).get .S k=e at h D
    obtain⟨U,ob⟩:=e
    unfold Pv at h D
    by_cases H:U=g
    ·cases ob with
     |none=>simp[H,Q.run]at h
     |map ks X z=>simp[H,Q.run]at h
     |cells cs Y bx=>
      simp only[H,if_true]at h D
      split at h
      ·rename_i V
       rw[if_pos V]at D
       have hs:(bx&&(Sp.S==Sp.L))=false:=by cases bx <;> rfl
       rw[hs]at h D
       simp only[Bool.false_eq_true,if_false]at h D
       unfold iE at h D
       rw[oS N]at h D
       simp only[Q.bind]at h D
       split at h
       ·simp[Q.run]at h
       ·rename_i W
        rw[if_neg W]at D
        simp[Q.run]at h
        obtain⟨rfl,rfl⟩:=h
        rw[D (by simp[vW,BT,O])]
        rfl
      ·simp[Q.run]at h
    ·simp only[H,if_false,Q.run]at h
     cases h
 |_=>rw[IJ]at F;simp[aaq]at F
theorem uL{k g off:Nat}:ag9 (.ptr .S k g off)=⟨false,[(.S,k)],[(.S,k)]⟩:=nr rfl
end
theorem nwd(c:Ct)(D V:T)(c7 vU:List T)(i7:IsSl D c.cs.length c7)(j7:kN c.cs c7)(i10:IsSl V c.cr.length vU)(As:jx c.cr vU)(hlen:c.cr.length≤40)(zC: ∀u∈c.cr,J7 c.cs 1 u)(zT aT fT a8 a9 iw iy nb F H I J K N:T)(k2 k3 tY:ib)(CI:List (Nat×Int))(zD:oi c.cs CI)(R0:List ib)(l1 l2 l3 q1 q2 q3:RL)(Hb:lq R0 80 (nA F H I J K N .nilsl l1 l2 l3 q1 q2 q3 []))(fr:Fr)(lh:iz ib)(sh:List ib)(lC:sh=lp D (jo c.cs c.cs.length) CI R0)
  (W:an fr 8= .ptr .L 37 1 0) (X:an fr 14= .ptr .S 2 1 0) (Gf:an fr 156=V) (DN:an fr 157= .i .i64 (c.cr.length:Int)) (I3:an fr 158= .i .i64 0) (Z:a6 lh 2=k2) (o3:a6 lh 3=k3) (mj:a6 lh 35=tY) (O:a6 lh 37=⟨1,.cells (ma zT aT fT c D a8 a9 V iw iy (mB F H I J K N .nilsl nb)) 0 true⟩):
  rD 232 oy fr lh sh (.ext 8)∧
  (a6 (lZ pE 232 oy fr lh sh) 2=k2∧a6 (lZ pE 232 oy fr lh sh) 3=k3∧a6 (lZ pE 232 oy fr lh sh) 35=tY∧ ∃(R:List ib) (kn:List (Nat×Int)) (h:T),ng pE 232 oy fr lh sh=lp D (jo c.cs c.cs.length) kn R∧oi c.cs kn∧lq R 120 (nA F H I J K N h l1 l2 l3 q1 q2 q3 (PH c c.cr.length))∧a6 (lZ pE 232 oy fr lh sh) 37=⟨1,.cells (ma zT aT fT c D a8 a9 V iw iy (mB F H I J K N h nb)) 0 true⟩):=by
 refine jc (P:=fun js iN jb=>a6 iN 2=k2∧a6 iN 3=k3∧a6 iN 35=tY∧ ∃(R:List ib) (kn:List (Nat×Int)) (h:T),jb=lp D (jo c.cs c.cs.length) kn R∧oi c.cs kn∧lq R 120 (nA F H I J K N h l1 l2 l3 q1 q2 q3 (PH c c.cr.length))∧a6 iN 37=⟨1,.cells (ma zT aT fT c D a8 a9 V iw iy (mB F H I J K N h nb)) 0 true⟩)
  (jm (fun k st=> ∃(fr:Fr) (Y:iz ib) (R:List ib) (kn:List (Nat×Int)) (h:T),st=⟨fr,Y,lp D (jo c.cs c.cs.length) kn R⟩∧oi c.cs kn∧lq R (80+k) (nA F H I J K N h l1 l2 l3 q1 q2 q3 (PH c k))∧an fr 8= .ptr .L 37 1 0∧an fr 14= .ptr .S 2 1 0∧an fr 156=V∧an fr 157= .i .i64 (c.cr.length:Int)∧an fr 158= .i .i64 (k:Int)∧a6 Y 2=k2∧a6 Y 3=k3∧a6 Y 35=tY∧a6 Y 37=⟨1,.cells (ma zT aT fT c D a8 a9 V iw iy (mB F H I J K N h nb)) 0 true⟩) _ c.cr.length ?_ ?_ 0 _ (Nat.zero_le _) ⟨fr,lh,R0,CI,.nilsl,by rw[lC],zD,Hb,W,X,Gf,DN,I3,Z,o3,mj,O⟩)
 ·rintro k _ hk ⟨fr,Y,R,kn,h,rfl,ph,pP,W,X,Gf,DN,I3,Z,o3,mj,O⟩
  left
  have iR:(k:Int)<c.cr.length:=by omega
  have hw:=iM (k:=k) (by omega)
  obtain⟨b,cb,rr,iS,kg,tK,hb⟩:=nJ i10 As k hk
  obtain⟨nQ,U,t,mV⟩:=zC c.cr[k] (List.getElem_mem hk)
  have Dl:=(nL U).1
  obtain⟨cf,jM,iu,zj,oq,_⟩:=GY c.cs D R c.cs.length (Nat.le_refl _) (GZ c.cs D R c7 i7 j7) 1 (.inr nQ) c.cr[k] t kn _ ph hb Dl (mM U) (by rw[zN];exact mV)
  have hsz:=Bc (mZ c.cs) 1 c.cr[k]
  have s1:=Wu c hk
  generalize c.cr[k]=u at*
  generalize comp (mZ c.cs) 1 u=y at*
  obtain⟨fa,fc,rfl,vv,MU⟩:=zj.cells
  have yA:yD 3 [([],y)] [.i .i64 y.op,.i .i64 y.num,fa]:=by
   have:=(yD.nil 3).app3 ([],y) _ zj (by show y.sz≤1000;omega)
   simpa using this
  have hro:=G5
  unfold ma jf mB at O ⊢
  simp only[List.cons_append,List.nil_append]at O ⊢
  rcases pP.1 (3,h,PH c k) (by simp[nA])with⟨hnil,hl0⟩|⟨i,g,n,cs,hv,hE,hi,hn,hB,hfz⟩
  ·simp only at hnil hl0
   subst hnil
   rw[hl0,List.nil_append]at s1
   have rH:=(pP.mono (Nat.le_succ (80+k))).new (by omega) 6 (by simp[nA]) (sz:=3) rfl [.i .i64 y.op,.i .i64 y.num,fa] rfl _ yA
   simp only[qA,seval,repl,iY,mX,iC,kV,nl,kD,oy,W,X,Gf,DN,I3,O,iR,iS,hw,iu,qI,rv,kg.kept1,vv.froz1,lX,lY,jF,mn,mP,EF,sF,Fo,hro,jK,j0,tw,Nat.lt_succ_self,Jh,uK,uL]
   refine⟨_,rfl,_,_,jO R R.length ⟨1,.cells [.i .i64 y.op,.i .i64 y.num,fa] 0 false⟩,jM,.isl .S (R.length+7) 1 0 1 3,rfl,oq,(by rw[s1];exact rH), ?_, ?_, ?_, ?_, ?_, ?_, ?_, ?_, ?_⟩
   all_goals (simp only[qA,seval,W,X,Gf,DN,Z,o3,mj])
  ·simp only at hv
   subst hv
   have pA:=pP.app 6 (by simp[nA]) (sz:=3) rfl rfl hE hi hn hB [.i .i64 y.op,.i .i64 y.num,fa] rfl _ (hfz.app3 ([],y) _ zj (by show y.sz≤1000;omega)) (g+1)
   have vS:(n+1)*40≤roomy:=Bd (by omega)
   simp only[qA,seval,repl,iY,mX,iC,kV,nl,kD,oy,W,X,Gf,DN,I3,O,iR,iS,hw,iu,qI,rv,kg.kept1,vv.froz1,lX,lY,jF,mq,mQ,kU,EF,sF,Fo,jK,j0,mR,tA,Nat.lt_succ_self,Jh,uK,uL,hE,hn,vS]
   refine⟨_,rfl,_,_,jO R i ⟨g+1,.cells (cs++ [.i .i64 y.op,.i .i64 y.num,fa]) 0 false⟩,jM,.isl .S (i+7) (g+1) 0 (n+1) 3,rfl,oq,(by rw[s1];exact pA), ?_, ?_, ?_, ?_, ?_, ?_, ?_, ?_, ?_⟩
   all_goals (simp only[qA,seval,W,X,Gf,DN,Z,o3,mj])
 ·rintro _ ⟨fr,Y,R,kn,h,rfl,ph,pP,W,X,Gf,DN,I3,Z,o3,mj,O⟩
  simp only[qA,seval,oy,DN,I3,Int.lt_irrefl]
  exact⟨_,_,qH,rfl,rfl,Z,o3,mj,R,kn,h,rfl,ph,pP.mono (by omega),O⟩
theorem IY{lh:iz ib}{sh:List ib}{k g off D:Nat}{cs:List T}(F:jr sh k=⟨g,.cells cs D false⟩)(h:cs.all froz1=true):fzV lh sh false (.ptr .S k g off)=some (.vp (cs.drop off),[(.S,k,⟨g,.cells cs cs.length false⟩)]):=by
 have H:(cs.drop off).all froz1=true:=by
  rw[List.all_eq_true]at h ⊢
  exact fun x I=>h x (List.mem_of_mem_drop I)
 have J:(St.mk .nil lh sh).get .S k=jr sh k:=rfl
 unfold fzV iE
 rw[fz]
 simp only[Bool.false_and,Bool.false_eq_true,if_false,Q.run,J,F,if_true]
 rw[nI _ H]
 rfl
theorem aqx{f:Fm}{c:List T}(h:og f c):c.all froz1=true:=by
 obtain⟨a,F,rfl,D,H⟩:=h.cells
 simp[D.froz1,xM]
theorem acZ: ∀{l:List Fm} {cs:List T},iT l cs→cs.all froz1=true
 | [],cs,h=>by rw[iT]at h;rw[h];rfl
 |f::l,cs,h=>by
  rw[iT]at h
  obtain⟨c,r,D,F,H⟩:=h
  rw[D,List.all_append,aqx F,acZ H];rfl
theorem aqy: ∀{l:List (List Nat×Fm)} {cs:List T},iB RlR l cs→cs.all froz1=true
 | [],cs,h=>by rw[iB]at h;rw[h];rfl
 |u::l,cs,h=>by
  obtain⟨c,r,rfl,⟨H,rfl,D⟩,F⟩:=h
  rw[List.all_append,aqy F,List.all_cons,aqx D];rfl
theorem yD.froz{sz:Nat}{l:RL}{cs:List T}(h:yD sz l cs):cs.all froz1=true:=by
 have D:=h.1
 split at D
 ·exact aqy D
 ·exact acZ D
theorem yD.at4{l:RL}{cs:List T}(h:yD 4 l cs){n k:Nat}(U:n*4=cs.length)(V:k<n): ∃(f:Fm) (b:T) (D r:List T),cs.drop (k*4+1)= .i .i64 f.op:: .i .i64 f.num::b::r∧IsSl b f.args.length D∧iT f.args D∧f.sz≤1000:=by
 have I:=h.2
 have F:=h.1
 rw[if_pos rfl]at F
 have W:=iB.len RlR.len F
 have H:k<l.length:=by omega
 obtain⟨c,r,J,X,rfl,K⟩:=iB.drop RlR.len k H F
 obtain⟨b,D,rfl,N,O⟩:=K.cells
 refine⟨l[k].2,b,D,r, ?_,N,O,I _ (List.getElem_mem H)⟩
 rw[←List.drop_drop,J]
 rfl
theorem yD.at3{l:RL}{cs:List T}(h:yD 3 l cs){n k:Nat}(V:n*3=cs.length)(W:k<n): ∃(f:Fm) (b:T) (D r:List T),cs.drop (k*3)= .i .i64 f.op:: .i .i64 f.num::b::r∧IsSl b f.args.length D∧iT f.args D∧f.sz≤1000:=by
 have J:=h.2
 have F:=h.1
 rw[if_neg (by decide)]at F
 have K:=iT.len F
 rw[List.length_map]at K
 have H:k<l.length:=by omega
 have UI:k<(l.map Prod.snd).length:=by simpa using H
 obtain⟨c,r,N,I,_⟩:=iT.drop k UI F
 rw[List.getElem_map]at I
 obtain⟨b,D,rfl,O,U⟩:=I.cells
 exact⟨l[k].2,b,D,r,N,O,U,J _ (List.getElem_mem H)⟩
def RwW(R:List ib)(p:Nat×T×RL):Prop:=(p.2.1= .nilsl∧p.2.2= [])∨ ∃i g n cs h,p.2.1= .isl .S (i+7) g 0 n p.1∧jr R i=⟨g,.cells cs h false⟩∧i<R.length∧n*p.1=cs.length∧n≤1000∧yD p.1 p.2.2 cs
def wF(R:List ib)(h:List (Nat×T×RL)):Prop:= ∀p∈h,RwW R p
theorem lq.toW{R:List ib}{B:Nat}{D:List (Nat×T×RL)}(h:lq R B D)(O:B≤1000):wF R D:=fun p F=>by
 rcases h.1 p F with h|⟨i,g,n,cs,H,I,J,K,U,N⟩
 ·exact .inl h
 ·exact .inr ⟨i,g,n,cs,0,H,I,J,K,by omega,N⟩
end Go.Proofs.YtbdfboojnfinkaaGreat
