/- Walks of functions of the program and of the reference, and their plain laws, part 12. Conditions: the theorems' own. -/
import Derived.Test.YtcpceiclnbmgiaaGreatGS
import Derived.Test.YtcpceiclnbmgiaaGreatM7
import Derived.Test.YtcpceiclnbmgiaaGreatM11
import Derived.KernelRfl
set_option maxRecDepth 100000
set_option linter.unusedSimpArgs false
set_option linter.unusedVariables false
set_option maxHeartbeats 16000000
namespace Go.Proofs.YtcpceiclnbmgiaaGreat
open Go Go.Ev
section
variable(c:Ct)(a7 a8 a9 a10 aw av:T)(hT:oP c a7 a8 a9 a10 aw av)(hS:vn c)
include hT hS
theorem aFr(I:ah)(fr:Fr)(lh:aB ah)(sh:List ah)(V:qV c.cs a7 sh)
  (h4:aa fr 4= .ptr .S 2 1 0) (J:aa fr 12= .i .i64 (c.cs.length:Int)) (hs:aa fr 65=a8) (N:aa fr 66= .i .i64 (c.ru.length:Int)) (hi:aa fr 67= .i .i64 0) (D:ab lh 1=I):
  py pE 115 EZ fr lh sh 4 2 (Jh c.cs c.ru) (fun F r=>ab F 1=I∧qV c.cs a7 r):=by
 obtain⟨c7,W,X⟩:=hT.h7
 obtain⟨c8,Y,Z⟩:=hT.h8
 have O:=hS.s8.2
 refine cm Yk (fun k f F r=>aa f 67= .i .i64 (k:Int)∧ab F 1=I∧qV c.cs a7 r∧Jh c.cs c.ru=Jh c.cs (c.ru.drop k)) c.ru.length ⟨hi,D,V,rfl⟩ ?_ ?_
 ·rintro k f F r hk H ⟨K,D,qI,hr⟩
  have aN:(k:Int)<c.ru.length:=zO
  have hw:=bj (k:=k) zO
  rw[List.drop_eq_getElem_cons hk,Jh]at hr
  obtain⟨b,cb,rr,aQ,fD,hb⟩:=ym Y Z k hk
  obtain⟨sh2,U,Hv⟩:=Gi c.cs a7 c7 W X hS.s7.2 hS.s7.1 c.ru[k].sc 4 c.ru[k].x _ hb (hS.s8.1 c.ru[k] (List.getElem_mem hk)) r qI
  simp only[qB,seval,gd,dL,EZ,H,h4,J,hs,N,K,D,aN,aQ,hw,fD.kept1,U,akA,Hv]
  clear H U
  grind
 ·rintro f F r H ⟨K,D,h,hr⟩
  simp only[qB,seval,gd,EZ,H,N,K,D,h,Int.lt_irrefl,hr,List.drop_length,Jh]
theorem aFs(I:ah)(fr:Fr)(lh:aB ah)(sh:List ah)(V:qV c.cs a7 sh)
  (h4:aa fr 4= .ptr .S 2 1 0) (J:aa fr 12= .i .i64 (c.cs.length:Int)) (hs:aa fr 83=a9) (N:aa fr 84= .i .i64 (c.co.length:Int)) (hi:aa fr 85= .i .i64 0) (D:ab lh 1=I):
  py pE 115 EY fr lh sh 6 2 (Ji c.cs c.co) (fun F r=>ab F 1=I∧qV c.cs a7 r):=by
 obtain⟨c7,W,X⟩:=hT.h7
 obtain⟨c8,Y,Z⟩:=hT.h9
 have O:=hS.s9.2
 refine cm Yl (fun k f F r=>aa f 85= .i .i64 (k:Int)∧ab F 1=I∧qV c.cs a7 r∧Ji c.cs c.co=Ji c.cs (c.co.drop k)) c.co.length ⟨hi,D,V,rfl⟩ ?_ ?_
 ·rintro k f F r hk H ⟨K,D,qI,hr⟩
  have aN:(k:Int)<c.co.length:=zO
  have hw:=bj (k:=k) zO
  rw[List.drop_eq_getElem_cons hk,Ji]at hr
  obtain⟨b,cb,rr,aQ,fD,hb⟩:=BR Y Z k hk
  obtain⟨sh2,U,Hv⟩:=Gi c.cs a7 c7 W X hS.s7.2 hS.s7.1 c.co[k].sc 1 c.co[k].x _ hb (hS.s9.1 c.co[k] (List.getElem_mem hk)) r qI
  simp only[qB,seval,gd,dL,EY,H,h4,J,hs,N,K,D,aN,aQ,hw,fD.kept1,U,akA,Hv]
  clear H U
  grind
 ·rintro f F r H ⟨K,D,h,hr⟩
  simp only[qB,seval,gd,EY,H,N,K,D,h,Int.lt_irrefl,hr,List.drop_length,Ji]
theorem aFt(I:ah)(fr:Fr)(lh:aB ah)(sh:List ah)(V:qV c.cs a7 sh)
  (h4:aa fr 4= .ptr .S 2 1 0) (J:aa fr 12= .i .i64 (c.cs.length:Int)) (hs:aa fr 101=a10) (N:aa fr 102= .i .i64 (c.cr.length:Int)) (hi:aa fr 103= .i .i64 0) (D:ab lh 1=I):
  py pE 115 EX fr lh sh 8 2 (KO c.cs c.cr) (fun F r=>ab F 1=I∧qV c.cs a7 r):=by
 obtain⟨c7,W,X⟩:=hT.h7
 obtain⟨c8,Y,Z⟩:=hT.h10
 have O:=hS.s10.2
 refine cm Ym (fun k f F r=>aa f 103= .i .i64 (k:Int)∧ab F 1=I∧qV c.cs a7 r∧KO c.cs c.cr=KO c.cs (c.cr.drop k)) c.cr.length ⟨hi,D,V,rfl⟩ ?_ ?_
 ·rintro k f F r hk H ⟨K,D,qI,hr⟩
  have aN:(k:Int)<c.cr.length:=zO
  have hw:=bj (k:=k) zO
  rw[List.drop_eq_getElem_cons hk,KO]at hr
  obtain⟨b,cb,rr,aQ,fD,nN,hb⟩:=ma Y Z k hk
  obtain⟨sh2,U,Hv⟩:=Gi c.cs a7 c7 W X hS.s7.2 hS.s7.1 1 2 c.cr[k] _ hb (hS.s10.1 c.cr[k] (List.getElem_mem hk)) r qI
  simp only[qB,seval,gd,dL,EX,H,h4,J,hs,N,K,D,aN,aQ,hw,fD.kept1,U,akA,Hv]
  clear H U
  grind
 ·rintro f F r H ⟨K,D,h,hr⟩
  simp only[qB,seval,gd,EX,H,N,K,D,h,Int.lt_irrefl,hr,List.drop_length,KO]
theorem Oo: ∃s,ae pE 50 [.agg (aR c a7 a8 a9 a10 aw av)] []=some (.i .i64 (fI c),s):=by
 have SV:=X9 c a7 a8 a9 a10 aw av hT hS
 have F:=aFq c a7 a8 a9 a10 aw av hT hS ⟨1,.cells (aR c a7 a8 a9 a10 aw av) 0 true⟩
 have H:=aFr c a7 a8 a9 a10 aw av hT hS ⟨1,.cells (aR c a7 a8 a9 a10 aw av) 0 true⟩
 have I:=aFs c a7 a8 a9 a10 aw av hT hS ⟨1,.cells (aR c a7 a8 a9 a10 aw av) 0 true⟩
 have J:=aFt c a7 a8 a9 a10 aw av hT hS ⟨1,.cells (aR c a7 a8 a9 a10 aw av) 0 true⟩
 obtain⟨⟨c7,D,X⟩,⟨c8,U,Y⟩,⟨Z,V,j9⟩,⟨ta,r,ua⟩,⟨tX,K,yn⟩,⟨xJ,N,zN⟩⟩:=hT
 have W:=amw c.cs a7 c7 D X hS.s7.2
 have O:qV c.cs a7 (ub a7 (bM c.cs c.cs.length) []):=⟨[],rfl,fun i t h=>by cases h⟩
 unfold aR at F H I J SV ⊢
 rw[an akk (by simp[Tf])]
 unfold fI
 simp(maxDischargeDepth:=8) only[qB,seval,dL,Tf,Ym,Yl,Yk,Yj,D.lenI,U.lenI,V.lenI,r.lenI,D.kept,D.froz1,U.froz1,V.froz1,r.froz1,K.froz1,N.froz1,SV,auQ,W,aDy,O,F,H,I,J,aEL,yF]
 clear F H I J SV W
 grind (splits:=30)
end
theorem aFu(s:List Nat)(fr:Fr)(lh:aB ah)(sh:List ah)(K:aa fr 0= .s s)(g3:aa fr 3= .i .i64 1):
  LpC pE 18 zp fr lh sh 0 2 (¬SU s) (.b true) (fun F H=>F=lh∧H=sh):=by
 refine pz api (by simp[ba]) (fun j f F H=>aa f 3= .i .i64 ((j:Int)+1)∧F=lh∧H=sh∧ae7 s j) 3 ⟨g3,rfl,rfl,fun i h=>by omega⟩ ?_ ?_
 ·rintro j f _ _ U r ⟨D,rfl,rfl,t⟩
  have I:=Ja ((j:Int)+1) s
  unfold qS at I
  have J:(j:Int)+1≤3:=zO
  have N:wr .i64 ((j:Int)+1+1)=((j+1:Nat):Int)+1:=bo zO
  have hc:j=0∨j=1∨j=2:=zO
  by_cases O:dZ ((j:Int)+1) s=0 <;> simp only[qB,seval,gd,zp,r,K,D,J,N,I,O,DH] <;> clear r I <;> grind [ae7,SU]
 ·rintro f _ _ r ⟨D,rfl,rfl,t⟩
  rw[show((3:Nat):Int)+1=4 from rfl]at D
  have a:=t 0 yv
  have b:=t 1 yv
  have c:=t 2 yv
  simp only[qB,seval,gd,zp,r,D]
  grind [SU]
theorem Rr(s:List Nat):ae pE 155 [.s s] []=some (.b (decide (SU s)),[]):=by
 have r:=aFu s
 rw[an ahl (by simp[TO])]
 by_cases h:SU s <;> simp only[qB,seval,TO,r,h]
section
variable(c:Ct)(a7 a8 a9 a10 aw av:T)(hT:oP c a7 a8 a9 a10 aw av)(hS:vn c)
include hT hS
theorem Gk(scope r:Int)(x:Ex)(cs:List T)(hx:jI x cs)(J:(scope,x)∈Ea):ae pE 157 [.agg (aR c a7 a8 a9 a10 aw av),.i .i64 scope,.agg cs,.i .i64 r] []=some (.i .i64 (HC c.cs scope x r),[]):=by
 obtain⟨c7,F,K⟩:=hT.h7
 obtain⟨j,N,H⟩:=hS.b7
 obtain⟨e,D,_⟩:=Ok H F K
 have I:=aEV e j N _ J
 rw[←D,←H,←show cs=kz x from hx]at I
 obtain⟨a,U,rfl,O,On⟩:=hx.cells
 rw[an UW (by simp[TP])]
 unfold HC aR
 simp only[qB,seval,TP,I,ahn,O.froz1,F.froz]
 grind
theorem aFv(fr:Fr)(lh:aB ah)(sh:List ah)(h1:aa fr 1= .ptr .L 1 1 0)(hi:aa fr 4= .i .i64 0)(r:ab lh 1=⟨1,.cells (aR c a7 a8 a9 a10 aw av) 0 true⟩):
  py pE 114 yX fr lh sh 0 2 (L5 c.cs 0 c.cs) (fun D I=>ab D 1=⟨1,.cells (aR c a7 a8 a9 a10 aw av) 0 true⟩∧I=sh):=by
 obtain⟨c7,J,U⟩:=hT.h7
 have V:=hS.s7.2
 have W:=hS.s7.1
 refine cm Rs (fun k f D I=>aa f 4= .i .i64 (k:Int)∧ab D 1=⟨1,.cells (aR c a7 a8 a9 a10 aw av) 0 true⟩∧I=sh∧L5 c.cs 0 c.cs=L5 c.cs k (c.cs.drop k)) c.cs.length ⟨hi,r,rfl,rfl⟩ ?_ ?_
 ·rintro k f D _ hk H ⟨K,r,rfl,hr⟩
  have X:(k:Int)<c.cs.length:=zO
  have CW:k≤c.cs.length:=Nat.le_of_lt hk
  have Y:=bj (k:=k) zO
  rw[List.drop_eq_getElem_cons hk,L5]at hr
  obtain⟨b,cb,rr,Z,fD,nN,hb⟩:=ga J U k hk
  obtain⟨qU,hss⟩:=W c.cs[k] (List.getElem_mem hk)
  have jN:=Rr c.cs[k].1
  obtain⟨ex,rfl,qI,Hv,N⟩:=ae8 c.cs a7 c7 hk J U
  have ft:(c.cs.take k).length=k:=by rw[List.length_take,Nat.min_eq_left CW]
  have O:ae pE 156 [.sl (List.take (k*5) c7) k (ex&&decide (k=c.cs.length)),.i .i64 0,.agg [.i .i64 c.cs[k].2.op,.i .i64 c.cs[k].2.num,.s c.cs[k].2.name,b]] []=some (.tup [.i .i64 (dc (c.cs.take k) 0 c.cs[k].2).1,.i .i64 (dc (c.cs.take k) 0 c.cs[k].2).2],[]):=by
   obtain⟨j,hj,F⟩:=hS.b7
   have wZ:k=0:=by rw[F]at hk;simpa[sg]using hk
   subst wZ
   have hx:c.cs[0].2=oO j:=by simp[F,sg]
   rw[show [T.i .i64 c.cs[0].2.op,.i .i64 c.cs[0].2.num,.s c.cs[0].2.name,b]=kz c.cs[0].2 from hb,hx]
   exact tyc _ j (j3 hj)
  rw[L6 c.cs CW,←Gl c.cs hk]at O
  unfold aR at r ⊢
  by_cases hs:SU c.cs[k].1 <;> simp only[qB,seval,gd,tu,bp,aJ,yX,H,h1,K,r,X,Z,fD.froz1,jN,hs,avx,Y,CW,N,Nat.sub_zero,O,ahn,avy] <;> clear H O <;> grind
 ·rintro f D _ H ⟨K,r,rfl,hr⟩
  unfold aR at r ⊢
  simp only[qB,seval,gd,yX,H,h1,K,r,J.lenI,Int.lt_irrefl,hr,List.drop_length,L5]
theorem aFx(fr:Fr)(lh:aB ah)(sh:List ah)(h1:aa fr 1= .ptr .L 1 1 0)(hi:aa fr 7= .i .i64 0)(r:ab lh 1=⟨1,.cells (aR c a7 a8 a9 a10 aw av) 0 true⟩):
  py pE 114 yW fr lh sh 2 2 (Jh c.cs c.ru) (fun D I=>ab D 1=⟨1,.cells (aR c a7 a8 a9 a10 aw av) 0 true⟩∧I=sh):=by
 have J:=hT
 obtain⟨⟨c7,X,j7⟩,⟨c8,H,Y⟩,⟨c9,Z,j9⟩,⟨ta,K,ua⟩,⟨tX,N,yn⟩,⟨xJ,O,zN⟩⟩:=hT
 have W:=hS.s8.2
 refine cm Rt (fun k f D I=>aa f 7= .i .i64 (k:Int)∧ab D 1=⟨1,.cells (aR c a7 a8 a9 a10 aw av) 0 true⟩∧I=sh∧Jh c.cs c.ru=Jh c.cs (c.ru.drop k)) c.ru.length ⟨hi,r,rfl,rfl⟩ ?_ ?_
 ·rintro k f D _ hk U ⟨V,r,rfl,hr⟩
  have aN:(k:Int)<c.ru.length:=zO
  have hw:=bj (k:=k) zO
  rw[List.drop_eq_getElem_cons hk,Jh]at hr
  obtain⟨b,cb,rr,aQ,fD,hb⟩:=ym H Y k hk
  have F:=Gk c a7 a8 a9 a10 aw av J hS c.ru[k].sc 4 c.ru[k].x _ hb (hS.b8 c.ru[k] (List.getElem_mem hk))
  unfold aR at r F ⊢
  simp only[qB,seval,gd,bp,aJ,yW,U,h1,V,r,H.lenI,aN,aQ,fD.froz1,X.froz1,H.froz1,Z.froz1,K.froz1,N.froz1,O.froz1,F,UX,UY,hw]
  grind
 ·rintro f D _ U ⟨V,r,rfl,hr⟩
  unfold aR at r ⊢
  simp only[qB,seval,gd,yW,U,h1,V,r,H.lenI,Int.lt_irrefl,hr,List.drop_length,Jh]
theorem aFy(fr:Fr)(lh:aB ah)(sh:List ah)(h1:aa fr 1= .ptr .L 1 1 0)(hi:aa fr 9= .i .i64 0)(r:ab lh 1=⟨1,.cells (aR c a7 a8 a9 a10 aw av) 0 true⟩):
  py pE 114 yV fr lh sh 4 2 (Ji c.cs c.co) (fun D I=>ab D 1=⟨1,.cells (aR c a7 a8 a9 a10 aw av) 0 true⟩∧I=sh):=by
 have J:=hT
 obtain⟨⟨c7,X,j7⟩,⟨c8,Y,j8⟩,⟨c9,H,Z⟩,⟨ta,K,ua⟩,⟨tX,N,yn⟩,⟨xJ,O,zN⟩⟩:=hT
 have W:=hS.s9.2
 refine cm Rv (fun k f D I=>aa f 9= .i .i64 (k:Int)∧ab D 1=⟨1,.cells (aR c a7 a8 a9 a10 aw av) 0 true⟩∧I=sh∧Ji c.cs c.co=Ji c.cs (c.co.drop k)) c.co.length ⟨hi,r,rfl,rfl⟩ ?_ ?_
 ·rintro k f D _ hk U ⟨V,r,rfl,hr⟩
  have aN:(k:Int)<c.co.length:=zO
  have hw:=bj (k:=k) zO
  rw[List.drop_eq_getElem_cons hk,Ji]at hr
  obtain⟨b,cb,rr,aQ,fD,hb⟩:=BR H Z k hk
  have F:=Gk c a7 a8 a9 a10 aw av J hS c.co[k].sc 1 c.co[k].x _ hb (hS.b9 c.co[k] (List.getElem_mem hk))
  unfold aR at r F ⊢
  simp only[qB,seval,gd,bp,aJ,yV,U,h1,V,r,H.lenI,aN,aQ,fD.froz1,X.froz1,Y.froz1,H.froz1,K.froz1,N.froz1,O.froz1,F,UX,UY,hw]
  grind
 ·rintro f D _ U ⟨V,r,rfl,hr⟩
  unfold aR at r ⊢
  simp only[qB,seval,gd,yV,U,h1,V,r,H.lenI,Int.lt_irrefl,hr,List.drop_length,Ji]
theorem aFz(fr:Fr)(lh:aB ah)(sh:List ah)(h1:aa fr 1= .ptr .L 1 1 0)(hi:aa fr 11= .i .i64 0)(D:ab lh 1=⟨1,.cells (aR c a7 a8 a9 a10 aw av) 0 true⟩):
  py pE 114 yU fr lh sh 6 2 (KO c.cs c.cr) (fun F I=>ab F 1=⟨1,.cells (aR c a7 a8 a9 a10 aw av) 0 true⟩∧I=sh):=by
 have J:=hT
 obtain⟨⟨c7,W,j7⟩,⟨c8,X,j8⟩,⟨c9,Y,j9⟩,⟨ta,r,Z⟩,⟨tX,K,yn⟩,⟨xJ,N,zN⟩⟩:=hT
 have V:=hS.s10.2
 refine cm Rw (fun k f F I=>aa f 11= .i .i64 (k:Int)∧ab F 1=⟨1,.cells (aR c a7 a8 a9 a10 aw av) 0 true⟩∧I=sh∧KO c.cs c.cr=KO c.cs (c.cr.drop k)) c.cr.length ⟨hi,D,rfl,rfl⟩ ?_ ?_
 ·rintro k f F _ hk O ⟨U,D,rfl,hr⟩
  have aN:(k:Int)<c.cr.length:=zO
  have hw:=bj (k:=k) zO
  rw[List.drop_eq_getElem_cons hk,KO]at hr
  obtain⟨b,cb,rr,aQ,fD,nN,hb⟩:=ma r Z k hk
  have H:=Gk c a7 a8 a9 a10 aw av J hS 1 2 c.cr[k] _ hb (hS.b10 c.cr[k] (List.getElem_mem hk))
  unfold aR at D H ⊢
  simp only[qB,seval,gd,bp,aJ,yU,O,h1,U,D,r.lenI,aN,aQ,fD.froz1,W.froz1,X.froz1,Y.froz1,r.froz1,K.froz1,N.froz1,H,UX,UY,hw]
  grind
 ·rintro f F _ O ⟨U,D,rfl,hr⟩
  unfold aR at D ⊢
  simp only[qB,seval,gd,yU,O,h1,U,D,r.lenI,Int.lt_irrefl,hr,List.drop_length,KO]
theorem Rx:ae pE 105 [.agg (aR c a7 a8 a9 a10 aw av)] []=some (.i .i64 (fI c),[]):=by
 have SV:=Jg c a7 a8 a9 a10 aw av hT hS
 have H:=aFv c a7 a8 a9 a10 aw av hT hS
 have I:=aFx c a7 a8 a9 a10 aw av hT hS
 have J:=aFy c a7 a8 a9 a10 aw av hT hS
 have K:=aFz c a7 a8 a9 a10 aw av hT hS
 obtain⟨⟨c7,N,V⟩,⟨c8,O,W⟩,⟨X,U,Y⟩,⟨ta,r,Z⟩,⟨tX,D,yn⟩,⟨xJ,F,zN⟩⟩:=hT
 unfold aR at H I J K SV ⊢
 rw[an UF (by simp[KW])]
 unfold fI
 simp(maxDischargeDepth:=8) only[qB,seval,KW,Rw,Rv,Rt,Rs,N.froz1,O.froz1,U.froz1,r.froz1,D.froz1,F.froz1,SV,auH,H,I,J,K]
 grind
end
def qW(n:Int):Bool:=decide (-840≤n)&&decide (n≤840)
def oq(n:Int):Bool:=decide (0≤n)&&decide (n<52596000)
theorem Oq(n:Int):ae pE 134 [.i .i64 n] []=some (.b (qW n),[]):=by
 rw[an ag3 (by simp[TA])]
 unfold qW
 by_cases h: -840≤n <;> simp only[qA,seval,TA,h]
theorem Ot(n:Int):ae pE 186 [.i .i64 n] []=some (.b (qW n),[]):=by
 rw[an ahG (by simp[T2])]
 unfold qW
 by_cases h: -840≤n <;> simp only[qA,seval,T2,h]
theorem Ou(n:Int):ae pE 135 [.i .i64 n] []=some (.b (oq n),[]):=by
 rw[an ag4 (by simp[TB])]
 unfold oq
 by_cases h:0≤n <;> simp only[qA,seval,TB,h]
theorem Ov(n:Int):ae pE 187 [.i .i64 n] []=some (.b (oq n),[]):=by
 rw[an ahH (by simp[T3])]
 unfold oq
 by_cases h:0≤n <;> simp only[qA,seval,T3,h]
structure Zo where
 nm:List Nat
 o:Int
 sh:List (Int×Int)
def SW(s:Int×Int)(c:List T):Prop:=c= [.i .i64 s.1,.i .i64 s.2]
theorem SW.len(s:Int×Int)(c:List T)(h:SW s c):c.length=2:=by rw[h];rfl
def Dk(D:Option Int):List (Int×Int)→Int
 | []=>0
 |s::r=>if(oq s.1&&qW s.2)=false then 5 else if(match D with|some p=>decide (s.1≤p)|none=>false)=true then 8 else Dk (some s.1) r
def qX(l:List (Int×Int))(k:Nat):Option Int:=if k=0 then none else(l[k-1]?).map (·.1)
theorem Yn{l:List (Int×Int)}{k:Nat}(hk:k<l.length):Dk (qX l k) (l.drop k)=if(oq l[k].1&&qW l[k].2)=false then 5 else if(match qX l k with|some p=>decide (l[k].1≤p)|none=>false)=true then 8 else Dk (qX l (k+1)) (l.drop (k+1)):=by
 have e:qX l (k+1)=some l[k].1:=by unfold qX;rw[if_neg zO,Nat.add_sub_cancel,List.getElem?_eq_getElem hk];rfl
 rw[List.drop_eq_getElem_cons hk,e]
 conv=>lhs;unfold Dk
theorem Ed{l:List (Int×Int)}{k:Nat}(h0:0<k)(hk:k-1<l.length):qX l k=some l[k-1].1:=by
 unfold qX;rw[if_neg zO,List.getElem?_eq_getElem hk];rfl
theorem iA{k:Nat}(h0:0<k)(h:k<4611686018427387904):wr .i64 ((k:Int)-1)=((k-1:Nat):Int):=by rw[bo zO];omega
def iG(z:Zo):Int:=if np z.nm=false then 1 else if qW z.o=false then 5 else if 16<z.sh.length then 10 else Dk none z.sh
theorem BV{l:List (Int×Int)}{a:T}{D:List T}(F:IsSl a l.length D)(hc:aA SW l D){k:Nat}(hk:k<l.length): ∃r,∀kk,dV a (.i kk (k:Int)) 2=some (.vp (.i .i64 l[k].1:: .i .i64 l[k].2::r)):=by
 obtain⟨c,r,h1,h2⟩:=kD (k:=2) SW.len F hc k hk
 rw[SW]at h2
 subst h2
 exact⟨r,h1⟩
theorem aFA(z:Zo)(a:T)(O:List T)(U:IsSl a z.sh.length O)(hc:aA SW z.sh O)(V:z.sh.length≤16)(fr:Fr)(lh:aB ah)(sh:List ah)
  (h1:aa fr 1= .ptr .L 1 1 0) (W:aa fr 18=a) (I:aa fr 19= .i .i64 (z.sh.length:Int)) (J:aa fr 20= .i .i64 0) (D:ab lh 1=⟨1,.cells [.s z.nm,.i .i64 z.o,a] 0 true⟩):
  py pE 50 AO fr lh sh 0 2 (Dk none z.sh) (fun F K=>K=sh):=by
 refine cm ayh (fun k f F K=>aa f 20= .i .i64 (k:Int)∧ab F 1=⟨1,.cells [.s z.nm,.i .i64 z.o,a] 0 true⟩∧K=sh∧Dk none z.sh=Dk (qX z.sh k) (z.sh.drop k)) z.sh.length ⟨J,D,rfl,rfl⟩ ?_ ?_
 ·rintro k f F _ hk r ⟨H,D,rfl,hr⟩
  rw[Yn hk]at hr
  have X:(k:Int)<z.sh.length:=zO
  have Y:=aI (k:=k) zO
  obtain⟨rr,Z⟩:=BV U hc hk
  have i1:=cO (Ou z.sh[k].1)
  have i2:=cO (Oq z.sh[k].2)
  by_cases wZ:k=0
  ·have N: ¬(0:Int)<k:=zO
   have hp:qX z.sh k=none:=by rw[wZ];rfl
   simp only[qB,seval,gd,AO,r,W,I,H,D,X,Z,i1,i2,N,Y,UO,Ng]
   clear r
   grind
  ·have N:(0:Int)<k:=zO
   have Dl:=iA (k:=k) zO zO
   obtain⟨r2,KP⟩:=BV U hc (k:=k-1) zO
   have hp:=Ed (l:=z.sh) (k:=k) zO zO
   simp only[qB,seval,gd,AO,r,h1,W,I,H,D,X,Z,i1,i2,N,Y,Dl,KP,UO,Ng]
   clear r
   grind
 ·rintro f F _ r ⟨H,D,rfl,hr⟩
  simp only[qB,seval,gd,AO,r,I,H,Int.lt_irrefl,hr,List.drop_length,Dk]
theorem BW(z:Zo)(a:T)(r:List T)(D:IsSl a z.sh.length r)(hc:aA SW z.sh r):ae pE 84 [.agg [.s z.nm,.i .i64 z.o,a]] []=some (.i .i64 (iG z),[]):=by
 rw[an auL (by simp[c84])]
 have F:=cO (BM z.nm)
 have H:=cO (Oq z.o)
 unfold iG
 by_cases I:z.sh.length≤16
 ·have J:=aFA z a r D hc I
  simp only[qB,seval,c84,F,H,D.lenI,J,Nf,Ng]
  grind
 ·simp only[qB,seval,c84,F,H,D.lenI,Nf,Ng]
  grind
theorem aFB(z:Zo)(a:T)(O:List T)(F:IsSl a z.sh.length O)(hc:aA SW z.sh O)(U:z.sh.length≤16)(fr:Fr)(lh:aB ah)(sh:List ah)
  (h1:aa fr 1= .ptr .L 1 1 0) (J:aa fr 3= .i .i64 0) (r:ab lh 1=⟨1,.cells [.s z.nm,.i .i64 z.o,a] 0 true⟩):
  py pE 59 uk fr lh sh 0 2 (Dk none z.sh) (fun H K=>K=sh):=by
 refine cm apj (fun k f H K=>aa f 3= .i .i64 (k:Int)∧ab H 1=⟨1,.cells [.s z.nm,.i .i64 z.o,a] 0 true⟩∧K=sh∧Dk none z.sh=Dk (qX z.sh k) (z.sh.drop k)) z.sh.length ⟨J,r,rfl,rfl⟩ ?_ ?_
 ·rintro k f H _ hk D ⟨I,r,rfl,hr⟩
  rw[Yn hk]at hr
  have V:(k:Int)<z.sh.length:=zO
  have W:=aI (k:=k) zO
  obtain⟨rr,X⟩:=BV F hc hk
  have Y:=cO (Ov z.sh[k].1)
  have Z:=cO (Ot z.sh[k].2)
  by_cases wZ:k=0
  ·have N: ¬(0:Int)<k:=zO
   have hp:qX z.sh k=none:=by rw[wZ];rfl
   simp only[qB,seval,gd,uk,D,h1,F.lenI,I,r,V,X,Y,Z,N,W,U6,Nk]
   clear D
   grind
  ·have N:(0:Int)<k:=zO
   have Dl:=iA (k:=k) zO zO
   obtain⟨r2,KP⟩:=BV F hc (k:=k-1) zO
   have hp:=Ed (l:=z.sh) (k:=k) zO zO
   simp only[qB,seval,gd,uk,D,h1,F.lenI,I,r,V,X,Y,Z,N,W,Dl,KP,U6,Nk]
   clear D
   grind
 ·rintro f H _ D ⟨I,r,rfl,hr⟩
  simp only[qB,seval,gd,uk,D,h1,F.lenI,I,r,Int.lt_irrefl,hr,List.drop_length,Dk]
theorem BX(z:Zo)(a:T)(r:List T)(D:IsSl a z.sh.length r)(hc:aA SW z.sh r):ae pE 150 [.agg [.s z.nm,.i .i64 z.o,a]] []=some (.i .i64 (iG z),[]):=by
 rw[an ahh (by simp[PQ])]
 have F:=cO (BL z.nm)
 have H:=cO (Ot z.o)
 unfold iG
 by_cases I:z.sh.length≤16
 ·have J:=aFB z a r D hc I
  simp only[qB,seval,PQ,F,H,D.lenI,J,H4,Nk]
  grind
 ·simp only[qB,seval,PQ,F,H,D.lenI,H4,Nk]
  grind
mutual
def Ex.al:Ex→Prop
 | .mk _ _ _ args=>args.length≤fj∧alL args
def alL:List Ex→Prop
 | []=>True
 |x::xs=>x.al∧alL xs
end
theorem Ex.al_eq(x:Ex):x.al↔(x.args.length≤fj∧alL x.args):=by obtain⟨_,_,_,_⟩:=x;rw[Ex.al];rfl
theorem Ow: ∀{xs:List Ex},alL xs↔ ∀x∈xs,x.al
 | []=>by simp[alL]
 |x::xs=>by simp_all[alL,Ow]
def wc:T→Bool
 | .i .i64 _=>true
 |_=>false
theorem jO{n:Int}:wc (.i .i64 n)=true:=nr rfl
theorem pG{v:T}(h:wc v=true): ∃n,v= .i .i64 n:=by
 cases v with
 |i k n=>cases k <;> first|exact⟨n,rfl⟩|(simp[wc]at h)
 |_=>simp[wc]at h
def ayi(y:Ex):Prop:= ∀cs:List T,jI y cs→y.al→ ∃n:Int,ae pE 149 [.agg cs] []=some (.i .i64 n,[])
theorem aFC(xs:List Ex)(ih: ∀y∈xs,ayi y)(a:T)(H:List T)(r:IsSl a xs.length H)(hx:cG xs H)(I:xs.length≤fj)(Ij:alL xs)(op num:Int)(s:List Nat)(fr:Fr)(lh:aB ah)(sh:List ah)
  (h1:aa fr 1= .ptr .L 1 1 0) (h3:wc (aa fr 3)=true) (hi:aa fr 4= .i .i64 0) (D:ab lh 1=⟨1,.cells [.i .i64 op,.i .i64 num,.s s,a] 0 true⟩):
  mI 25 mP fr lh sh (.ext 0)∧(wc (aa (kR pE 25 mP fr lh sh) 3)=true∧iy pE 25 mP fr lh sh=lh∧iF pE 25 mP fr lh sh=sh):=by
 refine bF (P:=fun N O U=>wc (aa N 3)=true∧O=lh∧U=sh)
  (cu (fun k st=> ∃(fr:Fr),st=⟨fr,lh,sh⟩∧aa fr 1= .ptr .L 1 1 0∧wc (aa fr 3)=true∧aa fr 4= .i .i64 (k:Int)) _ xs.length ?_ ?_ 0 _ (Nat.zero_le _) ⟨fr,rfl,h1,h3,hi⟩)
 ·rintro k _ hk ⟨fr,rfl,h1,h3,hi⟩
  have J:(k:Int)<xs.length:=zO
  have V:=mf (k:=k) zO
  obtain⟨b,cb,rr,W,X,nN,Y⟩:=ma r hx k hk
  obtain⟨n,F⟩:=pG h3
  obtain⟨m,Z⟩:=ih xs[k] (List.getElem_mem hk) _ Y (Ow.1 Ij _ (List.getElem_mem hk))
  by_cases K:n<1000
  ·left
   simp only[qA,seval,mP,h1,F,hi,D,r.lenI,J,K,W,V,X.froz1,Z,H3]
   refine⟨_,rfl,_,rfl, ?_, ?_, ?_⟩
   ·simp only[qA,seval,h1]
   ·simp only[qA,seval,jO]
   ·simp only[qA,seval]
  ·right
   simp only[qA,seval,mP,h1,F,hi,D,r.lenI,J,K]
   refine⟨_,_,k9,rfl,rfl, ?_,rfl,rfl⟩
   simp only[qA,seval,F,jO]
 ·rintro _ ⟨fr,rfl,h1,h3,hi⟩
  simp only[qA,seval,mP,h1,hi,D,r.lenI,Int.lt_irrefl]
  refine⟨_,_,k9,rfl,rfl, ?_,rfl,rfl⟩
  simp only[qA,seval,h3]
theorem Gm(x:Ex):ayi x:=by
 induction x using Ex.ind with
 |h x ih=>
  intro cs hx Ij
  obtain⟨a,F,rfl,H,On⟩:=hx.cells
  obtain⟨r,I⟩:=(Ex.al_eq x).1 Ij
  have D:=fun fr lh sh h1 h3 hi J=>aFC x.args (fun y K=>ih y K) a F H On r I x.op x.num x.name fr lh sh h1 h3 hi J
  rw[an ahg (by simp[TL])]
  simp only[qA,seval,TL,jO,D]
  generalize N:aa (kR _ _ _ _ _ _) 3=X
  obtain⟨n,O⟩: ∃n,X= .i .i64 n:=by
   rw[←N]
   refine pG (D _ _ _ ?_ ?_ ?_ ?_).2.1 <;> simp only[qA,seval,jO]
  rw[O]
  simp only[qA,seval]
  grind
theorem aFD(xs:Cs)(a:T)(H:List T)(r:IsSl a xs.length H)(hx:dx xs H)(I:xs.length≤fj)(Ij: ∀u∈xs,u.2.al)(c:Ct)(a8 a9 a10 aw av:T)(fr:Fr)(lh:aB ah)(sh:List ah)
  (h1:aa fr 1= .ptr .L 1 1 0) (h3:wc (aa fr 3)=true) (hi:aa fr 4= .i .i64 0) (D:ab lh 1=⟨1,.cells [.i .i64 c.rp,.i .i64 c.rl,.i .i64 c.cn,.i .i64 c.st,.i .i64 c.ly,.i .i64 c.nf,.i .i64 c.nt,a,a8,a9,a10,aw,av,.i .i64 c.gu] 0 true⟩):
  mI 96 mO fr lh sh (.ext 0)∧(wc (aa (kR pE 96 mO fr lh sh) 3)=true∧iy pE 96 mO fr lh sh=lh∧iF pE 96 mO fr lh sh=sh):=by
 refine bF (P:=fun N O U=>wc (aa N 3)=true∧O=lh∧U=sh)
  (cu (fun k st=> ∃(fr:Fr),st=⟨fr,lh,sh⟩∧aa fr 1= .ptr .L 1 1 0∧wc (aa fr 3)=true∧aa fr 4= .i .i64 (k:Int)) _ xs.length ?_ ?_ 0 _ (Nat.zero_le _) ⟨fr,rfl,h1,h3,hi⟩)
 ·rintro k _ hk ⟨fr,rfl,h1,h3,hi⟩
  have J:(k:Int)<xs.length:=zO
  have V:=mf (k:=k) zO
  obtain⟨b,cb,rr,W,X,nN,Y⟩:=ga r hx k hk
  obtain⟨n,F⟩:=pG h3
  obtain⟨m,Z⟩:=Gm xs[k].2 _ Y (Ij _ (List.getElem_mem hk))
  by_cases K:n<3000
  ·left
   simp only[qA,seval,mO,h1,F,hi,D,r.lenI,J,K,W,V,X.froz1,Z,H3]
   refine⟨_,rfl,_,rfl, ?_, ?_, ?_⟩
   ·simp only[qA,seval,h1]
   ·simp only[qA,seval,jO]
   ·simp only[qA,seval]
  ·right
   simp only[qA,seval,mO,h1,F,hi,D,r.lenI,J,K]
   refine⟨_,_,k9,rfl,rfl, ?_,rfl,rfl⟩
   simp only[qA,seval,F,jO]
 ·rintro _ ⟨fr,rfl,h1,h3,hi⟩
  simp only[qA,seval,mO,h1,hi,D,r.lenI,Int.lt_irrefl]
  refine⟨_,_,k9,rfl,rfl, ?_,rfl,rfl⟩
  simp only[qA,seval,h3]
theorem aFE(xs:List Ru)(a:T)(H:List T)(r:IsSl a xs.length H)(hx:aA Ri xs H)(I:xs.length≤fj)(Ij: ∀u∈xs,u.x.al)(c:Ct)(a7 a9 a10 aw av:T)(fr:Fr)(lh:aB ah)(sh:List ah)
  (h1:aa fr 1= .ptr .L 1 1 0) (h3:wc (aa fr 3)=true) (hi:aa fr 5= .i .i64 0) (D:ab lh 1=⟨1,.cells [.i .i64 c.rp,.i .i64 c.rl,.i .i64 c.cn,.i .i64 c.st,.i .i64 c.ly,.i .i64 c.nf,.i .i64 c.nt,a7,a,a9,a10,aw,av,.i .i64 c.gu] 0 true⟩):
  mI 96 mN fr lh sh (.ext 2)∧(wc (aa (kR pE 96 mN fr lh sh) 3)=true∧iy pE 96 mN fr lh sh=lh∧iF pE 96 mN fr lh sh=sh):=by
 refine bF (P:=fun N O U=>wc (aa N 3)=true∧O=lh∧U=sh)
  (cu (fun k st=> ∃(fr:Fr),st=⟨fr,lh,sh⟩∧aa fr 1= .ptr .L 1 1 0∧wc (aa fr 3)=true∧aa fr 5= .i .i64 (k:Int)) _ xs.length ?_ ?_ 0 _ (Nat.zero_le _) ⟨fr,rfl,h1,h3,hi⟩)
 ·rintro k _ hk ⟨fr,rfl,h1,h3,hi⟩
  have J:(k:Int)<xs.length:=zO
  have V:=mf (k:=k) zO
  obtain⟨b,cb,rr,W,X,Y⟩:=ym r hx k hk
  obtain⟨n,F⟩:=pG h3
  obtain⟨m,Z⟩:=Gm xs[k].x _ Y (Ij _ (List.getElem_mem hk))
  by_cases K:n<3000
  ·left
   simp only[qA,seval,mN,h1,F,hi,D,r.lenI,J,K,W,V,X.froz1,Z,H3]
   refine⟨_,rfl,_,rfl, ?_, ?_, ?_⟩
   ·simp only[qA,seval,h1]
   ·simp only[qA,seval,jO]
   ·simp only[qA,seval]
  ·right
   simp only[qA,seval,mN,h1,F,hi,D,r.lenI,J,K]
   refine⟨_,_,k9,rfl,rfl, ?_,rfl,rfl⟩
   simp only[qA,seval,F,jO]
 ·rintro _ ⟨fr,rfl,h1,h3,hi⟩
  simp only[qA,seval,mN,h1,hi,D,r.lenI,Int.lt_irrefl]
  refine⟨_,_,k9,rfl,rfl, ?_,rfl,rfl⟩
  simp only[qA,seval,h3]
theorem aFF(xs:List Co)(a:T)(H:List T)(r:IsSl a xs.length H)(hx:aA XZ xs H)(I:xs.length≤fj)(Ij: ∀u∈xs,u.x.al)(c:Ct)(a7 a8 a10 aw av:T)(fr:Fr)(lh:aB ah)(sh:List ah)
  (h1:aa fr 1= .ptr .L 1 1 0) (h3:wc (aa fr 3)=true) (hi:aa fr 6= .i .i64 0) (D:ab lh 1=⟨1,.cells [.i .i64 c.rp,.i .i64 c.rl,.i .i64 c.cn,.i .i64 c.st,.i .i64 c.ly,.i .i64 c.nf,.i .i64 c.nt,a7,a8,a,a10,aw,av,.i .i64 c.gu] 0 true⟩):
  mI 96 mM fr lh sh (.ext 4)∧(wc (aa (kR pE 96 mM fr lh sh) 3)=true∧iy pE 96 mM fr lh sh=lh∧iF pE 96 mM fr lh sh=sh):=by
 refine bF (P:=fun N O U=>wc (aa N 3)=true∧O=lh∧U=sh)
  (cu (fun k st=> ∃(fr:Fr),st=⟨fr,lh,sh⟩∧aa fr 1= .ptr .L 1 1 0∧wc (aa fr 3)=true∧aa fr 6= .i .i64 (k:Int)) _ xs.length ?_ ?_ 0 _ (Nat.zero_le _) ⟨fr,rfl,h1,h3,hi⟩)
 ·rintro k _ hk ⟨fr,rfl,h1,h3,hi⟩
  have J:(k:Int)<xs.length:=zO
  have V:=mf (k:=k) zO
  obtain⟨b,cb,rr,W,X,Y⟩:=BR r hx k hk
  obtain⟨n,F⟩:=pG h3
  obtain⟨m,Z⟩:=Gm xs[k].x _ Y (Ij _ (List.getElem_mem hk))
  by_cases K:n<3000
  ·left
   simp only[qA,seval,mM,h1,F,hi,D,r.lenI,J,K,W,V,X.froz1,Z,H3]
   refine⟨_,rfl,_,rfl, ?_, ?_, ?_⟩
   ·simp only[qA,seval,h1]
   ·simp only[qA,seval,jO]
   ·simp only[qA,seval]
  ·right
   simp only[qA,seval,mM,h1,F,hi,D,r.lenI,J,K]
   refine⟨_,_,k9,rfl,rfl, ?_,rfl,rfl⟩
   simp only[qA,seval,F,jO]
 ·rintro _ ⟨fr,rfl,h1,h3,hi⟩
  simp only[qA,seval,mM,h1,hi,D,r.lenI,Int.lt_irrefl]
  refine⟨_,_,k9,rfl,rfl, ?_,rfl,rfl⟩
  simp only[qA,seval,h3]
theorem aFG(xs:List Ex)(a:T)(H:List T)(r:IsSl a xs.length H)(hx:cG xs H)(I:xs.length≤fj)(Ij: ∀u∈xs,u.al)(c:Ct)(a7 a8 a9 aw av:T)(fr:Fr)(lh:aB ah)(sh:List ah)
  (h1:aa fr 1= .ptr .L 1 1 0) (h3:wc (aa fr 3)=true) (hi:aa fr 7= .i .i64 0) (D:ab lh 1=⟨1,.cells [.i .i64 c.rp,.i .i64 c.rl,.i .i64 c.cn,.i .i64 c.st,.i .i64 c.ly,.i .i64 c.nf,.i .i64 c.nt,a7,a8,a9,a,aw,av,.i .i64 c.gu] 0 true⟩):
  mI 96 lC fr lh sh (.ext 6)∧(wc (aa (kR pE 96 lC fr lh sh) 3)=true∧iy pE 96 lC fr lh sh=lh∧iF pE 96 lC fr lh sh=sh):=by
 refine bF (P:=fun N O U=>wc (aa N 3)=true∧O=lh∧U=sh)
  (cu (fun k st=> ∃(fr:Fr),st=⟨fr,lh,sh⟩∧aa fr 1= .ptr .L 1 1 0∧wc (aa fr 3)=true∧aa fr 7= .i .i64 (k:Int)) _ xs.length ?_ ?_ 0 _ (Nat.zero_le _) ⟨fr,rfl,h1,h3,hi⟩)
 ·rintro k _ hk ⟨fr,rfl,h1,h3,hi⟩
  have J:(k:Int)<xs.length:=zO
  have V:=mf (k:=k) zO
  obtain⟨b,cb,rr,W,X,nN,Y⟩:=ma r hx k hk
  obtain⟨n,F⟩:=pG h3
  obtain⟨m,Z⟩:=Gm xs[k] _ Y (Ij _ (List.getElem_mem hk))
  by_cases K:n<3000
  ·left
   simp only[qA,seval,lC,h1,F,hi,D,r.lenI,J,K,W,V,X.froz1,Z,H3]
   refine⟨_,rfl,_,rfl, ?_, ?_, ?_⟩
   ·simp only[qA,seval,h1]
   ·simp only[qA,seval,jO]
   ·simp only[qA,seval]
  ·right
   simp only[qA,seval,lC,h1,F,hi,D,r.lenI,J,K]
   refine⟨_,_,k9,rfl,rfl, ?_,rfl,rfl⟩
   simp only[qA,seval,F,jO]
 ·rintro _ ⟨fr,rfl,h1,h3,hi⟩
  simp only[qA,seval,lC,h1,hi,D,r.lenI,Int.lt_irrefl]
  refine⟨_,_,k9,rfl,rfl, ?_,rfl,rfl⟩
  simp only[qA,seval,h3]
structure CtA (c:Ct):Prop where
 a7:(∀u∈c.cs,u.2.al)∧c.cs.length≤fj
 a8:(∀u∈c.ru,u.x.al)∧c.ru.length≤fj
 a9:(∀u∈c.co,u.x.al)∧c.co.length≤fj
 a10:(∀u∈c.cr,u.al)∧c.cr.length≤fj
 aw:c.li.length≤fj
 av:c.fs.length≤fj
theorem Yo(c:Ct)(a7 a8 a9 a10 aw av:T)(hT:oP c a7 a8 a9 a10 aw av)(r:CtA c): ∃b,ae pE 103 [.agg (aR c a7 a8 a9 a10 aw av)] []=some (.b b,[]):=by
 obtain⟨⟨c7,U,V⟩,⟨c8,W,Y⟩,⟨Z,i9,j9⟩,⟨ta,H,ua⟩,⟨tX,I,yn⟩,⟨xJ,J,zN⟩⟩:=hT
 have K:=fun fr lh sh h1 h3 hi D=>aFD c.cs a7 c7 U V r.a7.2 r.a7.1 c a8 a9 a10 aw av fr lh sh h1 h3 hi D
 have N:=fun fr lh sh h1 h3 hi D=>aFE c.ru a8 c8 W Y r.a8.2 r.a8.1 c a7 a9 a10 aw av fr lh sh h1 h3 hi D
 have O:=fun fr lh sh h1 h3 hi D=>aFF c.co a9 Z i9 j9 r.a9.2 r.a9.1 c a7 a8 a10 aw av fr lh sh h1 h3 hi D
 have F:=fun fr lh sh h1 h3 hi D=>aFG c.cr a10 ta H ua r.a10.2 r.a10.1 c a7 a8 a9 aw av fr lh sh h1 h3 hi D
 unfold aR
 rw[an agI (by simp[Tl])]
 simp(maxDischargeDepth:=6) only[qA,seval,Tl,Ry,Rz,RA,I.lenI,J.lenI,jO,K,N,O,F]
 generalize hX:aa (kR _ _ lC _ _ _) 3=X
 obtain⟨n,hn⟩: ∃n,X= .i .i64 n:=by
  rw[←hX]
  refine pG (F _ _ _ ?_ ?_ ?_ ?_).2.1 <;> simp(maxDischargeDepth:=6) only[qA,seval,Ry,Rz,RA,jO,K,N,O]
 rw[hn]
 simp(maxDischargeDepth:=6) only[qA,seval]
 grind
def HD(c:Nat):Prop:=(65:Int)≤c∧(c:Int)≤90
instance (c:Nat):Decidable (HD c):=by unfold HD;infer_instance
def Gn(c:Nat):Bool:=decide (HD c∨Ga c)
def Jj(s:List Nat):Bool:=decide (1≤s.length)&&(decide (s.length≤8)&&s.all Gn)
def Dm(s:List Nat):Bool:=decide (s.length=3)&&s.all fun c=>decide (HD c)
structure Ap where
 cd:List Nat
 zn:List Nat
structure Fl where
 nu:List Nat
 fr:List Nat
 to:List Nat
 dp:Int
 ar:Int
 ty:List Nat
 n0:Int
 n1:Int
 n2:Int
structure Tt where
 zo:List Zo
 ap:List Ap
 fl:List Fl
def BY(z:Zo)(c:List T):Prop:= ∃a r,c= [.s z.nm,.i .i64 z.o,a]∧IsSl a z.sh.length r∧aA SW z.sh r
def L7(u:Ap)(c:List T):Prop:=c= [.s u.cd,.s u.zn]
def tD(f:Fl):List T:= [.s f.nu,.s f.fr,.s f.to,.i .i64 f.dp,.i .i64 f.ar,.s f.ty,.i .i64 f.n0,.i .i64 f.n1,.i .i64 f.n2]
def RB(f:Fl)(c:List T):Prop:=c=tD f
theorem BY.len(z:Zo)(c:List T)(h:BY z c):c.length=3:=by obtain⟨a,r,rfl,_⟩:=h;rfl
theorem L7.len(u:Ap)(c:List T)(h:L7 u c):c.length=2:=by rw[h];rfl
theorem RB.len(f:Fl)(c:List T)(h:RB f c):c.length=9:=by rw[h];rfl
theorem Ee{xs:List Zo}{a:T}{H:List T}(h1:IsSl a xs.length H)(h2:aA BY xs H)(i:Nat)(hi:i<xs.length): ∃D F r,(∀kk,dV a (.i kk (i:Int)) 3=some (.vp (.s xs[i].nm:: .i .i64 xs[i].o::D::r)))∧IsSl D xs[i].sh.length F∧aA SW xs[i].sh F:=by
 obtain⟨c,r,e,h⟩:=kD (k:=3) BY.len h1 h2 i hi
 obtain⟨D,F,rfl,I,J⟩:=h
 exact⟨D,F,r,e,I,J⟩
theorem Jk{xs:List Ap}{a:T}{D:List T}(h1:IsSl a xs.length D)(h2:aA L7 xs D)(i:Nat)(hi:i<xs.length): ∃r,∀kk,dV a (.i kk (i:Int)) 2=some (.vp (.s xs[i].cd:: .s xs[i].zn::r)):=by
 obtain⟨c,r,e,h⟩:=kD (k:=2) L7.len h1 h2 i hi
 rw[L7]at h
 subst h
 exact⟨r,e⟩
theorem ot{xs:List Fl}{a:T}{D:List T}(h1:IsSl a xs.length D)(h2:aA RB xs D)(i:Nat)(hi:i<xs.length): ∃r,∀kk,dV a (.i kk (i:Int)) 9=some (.vp (.s xs[i].nu:: .s xs[i].fr:: .s xs[i].to:: .i .i64 xs[i].dp:: .i .i64 xs[i].ar:: .s xs[i].ty:: .i .i64 xs[i].n0:: .i .i64 xs[i].n1:: .i .i64 xs[i].n2::r)):=by
 obtain⟨c,r,e,h⟩:=kD (k:=9) RB.len h1 h2 i hi
 rw[RB]at h
 subst h
 exact⟨r,e⟩
def HE(seen:List (List Nat)):List Zo→Int
 | []=>0
 |z::r=>if iG z≠0 then iG z else if z.nm∈seen then 7 else HE (seen++ [z.nm]) r
def HF(D seen:List (List Nat)):List Ap→Int
 | []=>0
 |a::r=>if Dm a.cd=false then 1 else if a.cd∈seen then 7 else if a.zn∉D then 6 else HF D (seen++ [a.cd]) r
def qY(n:Int):Bool:=decide (0≤n)&&decide (n≤8)
def RC(f:Fl):Bool:=decide (2880≤f.dp)&&(decide (f.ar≤52593120)&&(decide (f.dp<f.ar)&&decide (f.ar-f.dp≤1440)))
def Jl(r:List (List Nat))(f:Fl):Int:=
 if Jj f.nu=false then 1 else if np f.ty=false then 1 else if f.fr∉r then 6 else if f.to∉r then 6 else if f.fr=f.to then 14 else if RC f=false then 5 else if(qY f.n0&&(qY f.n1&&qY f.n2))=false then 5 else 0
def RD(f g:Fl):Bool:=if f.dp≠g.dp then decide (f.dp<g.dp)else eU f.nu g.nu
def Gp(F:List (List Nat))(D:Option Fl):List Fl→Int
 | []=>0
 |f::r=>if Jl F f≠0 then Jl F f else if(match D with|some p=> !RD p f|none=>false)=true then 8 else Gp F (some f) r
def Tt.big(t:Tt):Prop:=16<t.zo.length∨64<t.ap.length∨200<t.fl.length
def ou(t:Tt):Int:=
 if 16<t.zo.length then 10 else if 64<t.ap.length then 10 else if 200<t.fl.length then 10 else if HE [] t.zo≠0 then HE [] t.zo else if HF (t.zo.map Zo.nm) [] t.ap≠0 then HF (t.zo.map Zo.nm) [] t.ap else Gp (t.ap.map Ap.cd) none t.fl
def SX(seen:List (List Nat)):List T:=(seen.map fun x=>(x,true)).map fun p=>sK p.1
def SY(seen:List (List Nat)):List T:=(seen.map fun x=>(x,true)).map fun p=>T.b p.2
theorem Jm(seen:List (List Nat))(s:List Nat):jb (.one .str) (SX seen) (SY seen) (.s s) (.b false) false=some (.b (decide (s∈seen))):=Gh seen s
theorem Yp(seen:List (List Nat))(s:List Nat)(h:s∉seen):lU (.one .str) (.s s) (.b true) (SX seen) (SY seen)=some (SX (seen++ [s]),SY (seen++ [s])):=BS seen s h
theorem vt{α β:Type}(f:α→β){l:List α}{k:Nat}(hk:k<l.length):(l.take (k+1)).map f=(l.take k).map f++ [f l[k]]:=by rw[List.take_succ_eq_append_getElem hk,List.map_append];rfl
theorem ayj(s:List Nat)(hs:s.length≤8)(fr:Fr)(lh:aB ah)(sh:List ah)(h0:aa fr 0= .s s)(I:aa fr 14= .i .i64 (s.length:Int))(J:aa fr 15= .i .i64 0):
  LpC pE 37 zi fr lh sh 0 2 (s.all Gn=true) (.b false) (fun D F=>F=sh):=by
 refine pz apk (by simp[ba]) (fun k f D F=>aa f 15= .i .i64 (k:Int)∧F=sh∧s.all Gn=(s.drop k).all Gn) s.length ⟨J,rfl,rfl⟩ ?_ ?_
 ·rintro k f D _ hk r ⟨H,rfl,hr⟩
  have K:(k:Int)<s.length:=zO
  have N:=aI (k:=k) zO
  have Rd:=yk hk
  rw[List.drop_eq_getElem_cons hk,List.all_cons]at hr
  simp only[qB,seval,gd,zi,r,h0,I,H,K,Rd,N]
  clear r Rd
  unfold Gn HD Ga at*
  grind
 ·rintro f D _ r ⟨H,rfl,hr⟩
  rw[List.drop_length,List.all_nil]at hr
  simp only[qB,seval,gd,zi,r,I,H,Int.lt_irrefl,hr]
theorem Yq(s:List Nat):ae pE 136 [.s s] []=some (.b (Jj s),[]):=by
 rw[an ag5 (by simp[PN])]
 unfold Jj
 by_cases h:s.length≤8
 ·have r:=ayj s h
  simp only[qB,seval,PN,r]
  clear r
  grind
 ·simp only[qB,seval,PN]
  grind
theorem vu(c:Nat):ae pE 188 [.i .u8 c] []=some (.b (decide (HD c)),[]):=by
 rw[an ahI (by simp[PV])]
 by_cases h1:(65:Int)≤c
 ·by_cases h2:(c:Int)≤90 <;> simp only[qA,seval,PV,h1,h2,HD]
 ·simp only[qA,seval,PV,h1,HD]
theorem ayk(s:List Nat)(hs:s.length≤fj)(fr:Fr)(lh:aB ah)(sh:List ah)(h0:aa fr 0= .s s)(h3:aa fr 3= .i .i64 0):
  LpC pE 30 zr fr lh sh 0 2 (s.all Gn=true) (.b false) (fun D F=>F=sh):=by
 refine pz RE (by simp[ba]) (fun k f D F=>aa f 3= .i .i64 (k:Int)∧F=sh∧s.all Gn=(s.drop k).all Gn) s.length ⟨h3,rfl,rfl⟩ ?_ ?_
 ·rintro k f D _ hk r ⟨H,rfl,hr⟩
  have K:(k:Int)<s.length:=zO
  have N:=mf (k:=k) zO
  have Rd:=yk hk
  have I:=cO (vu s[k])
  have J:=cO (D4 s[k])
  rw[List.drop_eq_getElem_cons hk,List.all_cons]at hr
  simp only[qB,seval,gd,zr,r,h0,H,K,Rd,N,I,J,ahJ,ahZ]
  clear r Rd I J
  unfold Gn at*
  grind
 ·rintro f D _ r ⟨H,rfl,hr⟩
  rw[List.drop_length,List.all_nil]at hr
  simp only[qB,seval,gd,zr,r,h0,H,Int.lt_irrefl,hr]
theorem Yr(s:List Nat)(hs:s.length≤fj):ae pE 189 [.s s] []=some (.b (Jj s),[]):=by
 rw[an ahK (by simp[T4])]
 unfold Jj
 have r:=ayk s hs
 simp only[qB,seval,T4,RE,r]
 clear r
 grind
theorem ayl(s:List Nat)(hs:s.length=3)(fr:Fr)(lh:aB ah)(sh:List ah)(h0:aa fr 0= .s s)(I:aa fr 8= .i .i64 (s.length:Int))(J:aa fr 9= .i .i64 0):
  LpC pE 23 Fb fr lh sh 0 2 ((s.all fun c=>decide (HD c))=true) (.b false) (fun D F=>F=sh):=by
 refine pz aym (by simp[ba]) (fun k f D F=>aa f 9= .i .i64 (k:Int)∧F=sh∧(s.all fun c=>decide (HD c))=(s.drop k).all fun c=>decide (HD c)) s.length ⟨J,rfl,rfl⟩ ?_ ?_
 ·rintro k f D _ hk r ⟨H,rfl,hr⟩
  have K:(k:Int)<s.length:=zO
  have N:=aI (k:=k) zO
  have Rd:=yk hk
  rw[List.drop_eq_getElem_cons hk,List.all_cons]at hr
  simp only[qB,seval,gd,Fb,r,h0,I,H,K,Rd,N]
  clear r Rd
  unfold HD at*
  grind
 ·rintro f D _ r ⟨H,rfl,hr⟩
  rw[List.drop_length,List.all_nil]at hr
  simp only[qB,seval,gd,Fb,r,I,H,Int.lt_irrefl,hr]
theorem ae9(s:List Nat):ae pE 85 [.s s] []=some (.b (Dm s),[]):=by
 rw[an auM (by simp[c85])]
 unfold Dm
 by_cases h1:s.length=3
 ·have r:=ayl s h1
  rw[h1]at r
  simp only[qB,seval,c85,h1,r]
  clear r
  grind
 ·have D: ¬(s.length:Int)=3:=zO
  simp only[qA,seval,c85,h1,D]
theorem afa(s:List Nat):ae pE 152 [.s s] []=some (.b (Dm s),[]):=by
 rw[an ahj (by simp[PR])]
 by_cases h1:s.length=3
 ·obtain⟨a,b,c,rfl⟩: ∃a b c,s= [a,b,c]:=by
   match s,h1 with
   | [a,b,c],_=>exact⟨a,b,c,rfl⟩
  have r:=vu a
  have D:=vu b
  have F:=vu c
  have H: ∀kk,Dg (.s [a,b,c]) (.i kk 0)=some (.i .u8 (a:Int)):=fun kk=>yk (s:= [a,b,c]) (k:=0) xv kk
  have I: ∀kk,Dg (.s [a,b,c]) (.i kk 1)=some (.i .u8 (b:Int)):=fun kk=>yk (s:= [a,b,c]) (k:=1) xv kk
  have J: ∀kk,Dg (.s [a,b,c]) (.i kk 2)=some (.i .u8 (c:Int)):=fun kk=>yk (s:= [a,b,c]) (k:=2) xv kk
  have e:Dm [a,b,c]=(decide (HD a)&&(decide (HD b)&&decide (HD c))):=by simp[Dm]
  rw[e]
  cases h1:decide (HD a) <;> cases h2:decide (HD b) <;> cases h3:decide (HD c) <;> rw[h1]at r <;> rw[h2]at D <;> rw[h3]at F <;> simp only[qA,seval,PR,H,I,J,r,D,F,ahJ]
 ·have K: ¬(s.length:Int)=3:=zO
  have e:Dm s=false:=by simp[Dm,h1]
  rw[e]
  simp only[qA,seval,PR,K]
theorem aFH(r D F:Int)(fr:Fr)(lh:aB ah)(sh:List ah)(I:aa fr 62= .agg [.i .i64 r,.i .i64 D,.i .i64 F])(O:aa fr 63= .i .i64 0):
  py pE 73 Fc fr lh sh 1 4 (if [r,D,F].all qY then 0 else 5) (fun J K=>K=sh):=by
 refine cm ayn (fun k f J K=>aa f 63= .i .i64 (k:Int)∧K=sh∧ [r,D,F].all qY=([r,D,F].drop k).all qY) 3 ⟨O,rfl,rfl⟩ ?_ ?_
 ·rintro k f J _ hk H ⟨N,rfl,hr⟩
  have hc:k=0∨k=1∨k=2:=zO
  unfold qY at*
  rcases hc with rfl|rfl|rfl <;> simp only[qB,seval,gd,adb,Fc,H,I,N,Int.ofNat_zero,Int.ofNat_one] <;> clear H <;> simp at hr ⊢ <;> grind
 ·rintro f J _ H ⟨N,rfl,hr⟩
  simp only[qB,seval,gd,Fc,H,N,Int.lt_irrefl,hr]
theorem amy(r:List (List Nat))(f:Fl):ae pE 86 [.agg (tD f),.vm (SX r) (SY r)] []=some (.i .i64 (Jl r f),[]):=by
 have D:=cO (Yq f.nu)
 have F:=cO (BM f.ty)
 have H:=Jm r f.fr
 have I:=Jm r f.to
 have J:=aFH f.n0 f.n1 f.n2
 have O:= @bo (f.ar-f.dp)
 rw[an auO (by simp[c86])]
 unfold Jl tD
 by_cases K:f.fr∈r <;> by_cases N:f.to∈r <;> simp only[qB,seval,c86,D,F,avj,Nf,H,I,K,N,J]
 all_goals clear J D F H I
 all_goals try unfold RC
 all_goals grind (splits:=30)
theorem afb(f g:Fl):ae pE 87 [.agg (tD f),.agg (tD g)] []=some (.b (RD f g),[]):=by
 rw[an aky (by simp[c87])]
 unfold RD tD
 by_cases h:f.dp=g.dp <;> simp only[qA,seval,c87,h]
theorem aFI(l:List Zo)(a:T)(V:List T)(ha:IsSl a l.length V)(hc:aA BY l V)(W:l.length≤100)(g:Nat)(K Tf:ah)(fr:Fr)(lh:aB ah)(sh:List ah)
  (h3:aa fr 3= .mp .L 29 g) (I:aa fr 31=a) (N:aa fr 32= .i .i64 (l.length:Int)) (BU:aa fr 33= .i .i64 0) (D:ab lh 1=K) (Jn:ab lh 29=⟨g,.map [] [] false⟩) (F:ab lh 50=Tf):
  py pE 106 AD fr lh sh 0 2 (HE [] l) (fun r O=>(HE [] l=0→ab r 29=⟨g,.map (SX (l.map Zo.nm)) (SY (l.map Zo.nm)) false⟩)∧ab r 1=K∧ab r 50=Tf∧O=sh):=by
 refine cm Ys (fun k f r O=>aa f 33= .i .i64 (k:Int)∧ab r 29=⟨g,.map (SX ((l.take k).map Zo.nm)) (SY ((l.take k).map Zo.nm)) false⟩∧ab r 1=K∧ab r 50=Tf∧O=sh∧HE [] l=HE ((l.take k).map Zo.nm) (l.drop k)) l.length ⟨BU,Jn,D,F,rfl,rfl⟩ ?_ ?_
 ·rintro k f r _ hk H ⟨J,Jn,D,F,rfl,hr⟩
  rw[List.drop_eq_getElem_cons hk,HE]at hr
  have X:(k:Int)<l.length:=zO
  have hw:=aI (k:=k) zO
  obtain⟨sT,sc,rr,Y,U,Hv⟩:=Ee ha hc k hk
  have Z:=BW l[k] sT sc U Hv
  have fH:=Jm ((l.take k).map Zo.nm) l[k].nm
  have jx:=Yp ((l.take k).map Zo.nm) l[k].nm
  have fO:=vt Zo.nm hk
  by_cases hs:l[k].nm∈(l.take k).map Zo.nm
  ·simp only[qB,seval,gd,AD,H,h3,I,N,J,Jn,D,F,X,Y,U.froz1,Z,acq,cq,fH,hs]
   clear H
   grind
  ·simp only[qB,seval,gd,AD,H,h3,I,N,J,Jn,D,F,X,Y,hw,U.froz1,Z,acq,cq,fH,hs,pq,yj,jx hs,fO]
   clear H
   grind
 ·rintro f r _ H ⟨J,Jn,D,F,rfl,hr⟩
  rw[List.take_length]at Jn
  simp only[qB,seval,gd,AD,H,N,J,Jn,D,F,Int.lt_irrefl,hr,List.drop_length,HE]
  exact fun _=>trivial
theorem aFJ(r:List (List Nat))(l:List Ap)(a:T)(V:List T)(ha:IsSl a l.length V)(hc:aA L7 l V)(W:l.length≤100)(g g3:Nat)(K:ah)(fr:Fr)(lh:aB ah)(sh:List ah)
  (h3:aa fr 3= .mp .L 29 g3) (X:aa fr 7= .mp .L 50 g) (SZ:aa fr 52=a) (N:aa fr 53= .i .i64 (l.length:Int)) (zP:aa fr 54= .i .i64 0) (H:ab lh 1=K) (Jn:ab lh 29=⟨g3,.map (SX r) (SY r) false⟩) (F:ab lh 50=⟨g,.map [] [] false⟩):
  py pE 106 AB fr lh sh 2 2 (HF r [] l) (fun D O=>(HF r [] l=0→ab D 50=⟨g,.map (SX (l.map Ap.cd)) (SY (l.map Ap.cd)) false⟩)∧ab D 1=K∧O=sh):=by
 refine cm Yt (fun k f D O=>aa f 54= .i .i64 (k:Int)∧ab D 50=⟨g,.map (SX ((l.take k).map Ap.cd)) (SY ((l.take k).map Ap.cd)) false⟩∧ab D 1=K∧ab D 29=⟨g3,.map (SX r) (SY r) false⟩∧O=sh∧HF r [] l=HF r ((l.take k).map Ap.cd) (l.drop k)) l.length ⟨zP,F,H,Jn,rfl,rfl⟩ ?_ ?_
 ·rintro k f D _ hk I ⟨J,F,H,Jn,rfl,hr⟩
  rw[List.drop_eq_getElem_cons hk,HF]at hr
  have Y:(k:Int)<l.length:=zO
  have hw:=aI (k:=k) zO
  obtain⟨rr,Z⟩:=Jk ha hc k hk
  have hp:=cO (ae9 l[k].cd)
  have fH:=Jm ((l.take k).map Ap.cd) l[k].cd
  have jx:=Yp ((l.take k).map Ap.cd) l[k].cd
  have U:=Jm r l[k].zn
  have fO:=vt Ap.cd hk
  by_cases hs:l[k].cd∈(l.take k).map Ap.cd
  ·simp only[qB,seval,gd,AB,I,X,SZ,N,J,F,H,Jn,Y,Z,hp,auN,cq,fH,hs]
   clear I
   grind
  ·by_cases hz:l[k].zn∈r <;> simp only[qB,seval,gd,AB,I,h3,X,SZ,N,J,F,H,Jn,Y,Z,hw,hp,auN,cq,fH,hs,U,hz,pq,yj,jx hs,fO] <;> clear I <;> grind
 ·rintro f D _ I ⟨J,F,H,Jn,rfl,hr⟩
  rw[List.take_length]at F
  simp only[qB,seval,gd,AB,I,N,J,F,H,Int.lt_irrefl,hr,List.drop_length,HF]
  exact fun _=>trivial
def qc(l:List Fl)(k:Nat):Option Fl:=if k=0 then none else l[k-1]?
theorem Ef{l:List Fl}{k:Nat}(h0:0<k)(hk:k-1<l.length):qc l k=some l[k-1]:=by
 unfold qc;rw[if_neg zO,List.getElem?_eq_getElem hk]
theorem Yu(r:List (List Nat)){l:List Fl}{k:Nat}(hk:k<l.length):Gp r (qc l k) (l.drop k)=if Jl r l[k]≠0 then Jl r l[k]else if(match qc l k with|some p=> !RD p l[k]|none=>false)=true then 8 else Gp r (qc l (k+1)) (l.drop (k+1)):=by
 have e:qc l (k+1)=some l[k]:=by unfold qc;rw[if_neg zO,Nat.add_sub_cancel,List.getElem?_eq_getElem hk]
 rw[List.drop_eq_getElem_cons hk,e]
 conv=>lhs;unfold Gp
 try rfl
theorem aFL(r:List (List Nat))(X Y:T)(l:List Fl)(a:T)(Z:List T)(ha:IsSl a l.length Z)(hc:aA RB l Z)(hlen:l.length≤1000)(g:Nat)(fr:Fr)(lh:aB ah)(sh:List ah)
  (h1:aa fr 1= .ptr .L 1 1 0) (h7:aa fr 7= .mp .L 50 g) (H:aa fr 79=a) (D:aa fr 80= .i .i64 (l.length:Int)) (O:aa fr 81= .i .i64 0) (I:ab lh 1=⟨1,.cells [X,Y,a] 0 true⟩) (J:ab lh 50=⟨g,.map (SX r) (SY r) false⟩):
  py pE 106 AA fr lh sh 5 2 (Gp r none l) (fun K U=>U=sh):=by
 refine cm ayo (fun k f K U=>aa f 81= .i .i64 (k:Int)∧ab K 1=⟨1,.cells [X,Y,a] 0 true⟩∧(∃wm,ab K 50=⟨g,.map (SX r) (SY r) wm⟩)∧U=sh∧Gp r none l=Gp r (qc l k) (l.drop k)) l.length ⟨O,I,⟨_,J⟩,rfl,rfl⟩ ?_ ?_
 ·rintro k f K _ hk F ⟨N,I,⟨wm,J⟩,rfl,hr⟩
  rw[Yu r hk]at hr
  have aN:(k:Int)<l.length:=zO
  have hw:=aI (k:=k) zO
  obtain⟨rr,aQ⟩:=ot ha hc k hk
  have V:=amy r l[k]
  unfold tD at V
  by_cases wZ:k=0
  ·have W: ¬(0:Int)<k:=zO
   have hp:qc l k=none:=by rw[wZ];rfl
   simp only[qB,seval,gd,bp,AA,F,h7,H,D,N,I,J,aN,aQ,hw,V,auP,W]
   clear F
   grind
  ·have W:(0:Int)<k:=zO
   have Dl:=iA (k:=k) zO zO
   obtain⟨r2,KP⟩:=ot ha hc (k-1) zO
   have hb:=cO (afb l[k-1] l[k])
   have hp:=Ef (l:=l) (k:=k) zO zO
   unfold tD at hb
   simp only[qB,seval,gd,bp,aJ,AA,F,h1,h7,H,D,N,I,J,aN,aQ,hw,V,auP,W,Dl,KP,hb,aDw,aDx]
   clear F
   grind
 ·rintro f K _ F ⟨N,I,⟨wm,J⟩,rfl,hr⟩
  simp only[qB,seval,gd,AA,F,D,N,Int.lt_irrefl,hr,List.drop_length,Gp]
structure ow (t:Tt) (zT aT fT:T):Prop where
 z: ∃c,IsSl zT t.zo.length c∧aA BY t.zo c
 a: ∃c,IsSl aT t.ap.length c∧aA L7 t.ap c
 f: ∃c,IsSl fT t.fl.length c∧aA RB t.fl c
theorem L8(t:Tt)(r D F:T)(hT:ow t r D F):ae pE 49 [.agg [r,D,F]] []=some (.i .i64 (ou t),[]):=by
 obtain⟨⟨W,H,X⟩,⟨ac,a1,a2⟩,⟨Y,I,Z⟩⟩:=hT
 rw[an auj (by simp[c49])]
 unfold ou
 by_cases q:t.zo.length≤16∧t.ap.length≤64∧t.fl.length≤200
 ·have O:=fun fr lh sh h3 J yo BU K Jn N=>lpO (aFI t.zo r W H X zO 1 ⟨1,.cells [r,D,F] 0 true⟩ ⟨0,.none⟩ fr lh sh h3 J yo BU K Jn N) xv
  have U:=fun fr lh sh h3 h7 SZ yH zP K Jn N=>lpO (aFJ (t.zo.map Zo.nm) t.ap D ac a1 a2 zO 1 1 ⟨1,.cells [r,D,F] 0 true⟩ fr lh sh h3 h7 SZ yH zP K Jn N) xv
  have V:=aFL (t.ap.map Ap.cd) r D t.fl F Y I Z zO 1
  simp(maxDischargeDepth:=6) only[qB,seval,c49,Yt,Ys,H.lenI,a1.lenI,I.lenI,O,U,V]
  clear O U V
  grind
 ·simp only[qB,seval,c49,H.lenI,a1.lenI,I.lenI]
  grind
end Go.Proofs.YtcpceiclnbmgiaaGreat
