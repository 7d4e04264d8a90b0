/- Walks of functions of the program and of the reference, and their plain laws, part 7. Conditions: the theorems' own. -/
import Derived.Test.YtcpceiclnbmgiaaGreatM6
import Derived.KernelRfl
set_option maxRecDepth 100000
set_option linter.unusedSimpArgs false
set_option linter.unusedVariables false
set_option maxHeartbeats 16000000
namespace Go.Proofs.YtcpceiclnbmgiaaGreat
open Go Go.Ev
section
variable(c:Ct)(a7 a8 a9 iq iy iv:T)(hT:um c a7 a8 a9 iq iy iv)(hS:AP c)
include hT hS
theorem aB6(fr:Fr)(lh:iw b8)(sh:List b8)(O:an fr 1= .ptr .L 1 1 0)(U:an fr 3= .i .i64 0)(D:b7 lh 1=⟨1,.cells (jz c a7 a8 a9 iq iy iv) 0 true⟩):
  xl pE 112 yb fr lh sh 0 2 (Ql [] c.li) (fun F I=>b7 F 1=⟨1,.cells (jz c a7 a8 a9 iq iy iv) 0 true⟩∧I=sh):=by
 obtain⟨S4,r,RU⟩:=hT.h11
 have hlen:=hS.s11
 refine kj F0 (fun k f F I=>an f 3= .i .i64 (k:Int)∧b7 F 1=⟨1,.cells (jz c a7 a8 a9 iq iy iv) 0 true⟩∧I=sh∧Ql [] c.li=Ql ((c.li.map Li.nm).take k) (c.li.drop k)) c.li.length ⟨U,D,rfl,rfl⟩ ?_ ?_
 ·rintro k f F _ hk H ⟨J,D,rfl,hr⟩
  rw[List.drop_eq_getElem_cons hk,Ql]at hr
  obtain⟨rr,V⟩:=Qk r RU k hk
  have FQ:=kq (qy c.li[k].nm)
  obtain⟨me,W,K⟩:=Zk c.li[k].me
  have X:=kq (tX c.li[k].mo 0 599999)
  have Y:=kq (tX c.li[k].da 1 31)
  obtain⟨G,Z⟩: ∃G,(b7 F 4).g+1=G:=⟨_,rfl⟩
  have N:=aB3 c.li iy S4 r RU hlen k (by omega) c.li[k].nm c a7 a8 a9 iq iv [.s c.li[k].me,.i .i64 c.li[k].mo,.i .i64 c.li[k].da] G
  have hw:=ji (k:=k) (by omega)
  have iW:(k:Int)<c.li.length:=by omega
  have qv:(c.li.map Li.nm).take (k+1)=(c.li.map Li.nm).take k++ [c.li[k].nm]:=by simp[List.take_succ_eq_append_getElem,hk]
  unfold jz at D N ⊢
  simp only[qB,seval,gd,yb,FZ,H,O,J,D,r.lenI,iW,V,Z,FQ,F6,N,K,aqn,X,Y,JI,hw]
  clear H N
  grind
 ·rintro f F _ H ⟨J,D,rfl,hr⟩
  unfold jz at D ⊢
  simp only[qB,seval,gd,yb,H,O,J,D,r.lenI,Int.lt_irrefl,hr,List.drop_length,Ql]
theorem aB7(fr:Fr)(lh:iw b8)(sh:List b8)(V:an fr 1= .ptr .L 1 1 0)(W:an fr 6= .i .i64 0)(D:b7 lh 1=⟨1,.cells (jz c a7 a8 a9 iq iy iv) 0 true⟩):
  xl pE 112 xY fr lh sh 4 2 (Th (c.li.map Li.nm) c.fs) (fun F I=>I=sh):=by
 obtain⟨S4,J,RU⟩:=hT.h11
 obtain⟨ZK,r,WY⟩:=hT.h12
 have K:=hS.s11
 have hlen:=hS.s12
 refine kj Qs (fun k f F I=>an f 6= .i .i64 (k:Int)∧b7 F 1=⟨1,.cells (jz c a7 a8 a9 iq iy iv) 0 true⟩∧I=sh∧Th (c.li.map Li.nm) c.fs=Th (c.li.map Li.nm++(c.fs.map Of.nm).take k) (c.fs.drop k)) c.fs.length ⟨W,D,rfl,by simp⟩ ?_ ?_
 ·rintro k f F _ hk H ⟨N,D,rfl,hr⟩
  rw[List.drop_eq_getElem_cons hk,Th]at hr
  obtain⟨rr,X⟩:=Zf r WY k hk
  have FQ:=kq (qy c.fs[k].nm)
  have Y:=kq (tX c.fs[k].da 1 31)
  have Z:=kq (tX c.fs[k].ct 1 c.fs[k].da)
  obtain⟨G,hG⟩: ∃G,(b7 F 7).g+1=G:=⟨_,rfl⟩
  have O:=aB4 c.li iy S4 J RU K c.fs[k].nm c a7 a8 a9 iq iv [.i .i64 c.fs[k].ct,.i .i64 c.fs[k].da] G
  have U:=aB5 c.fs iv ZK r WY hlen k (by omega) c.fs[k].nm c a7 a8 a9 iq iy [.i .i64 c.fs[k].ct,.i .i64 c.fs[k].da] G
  have hw:=ji (k:=k) (by omega)
  have iW:(k:Int)<c.fs.length:=by omega
  have qv:(c.fs.map Of.nm).take (k+1)=(c.fs.map Of.nm).take k++ [c.fs[k].nm]:=by simp[List.take_succ_eq_append_getElem,hk]
  unfold jz at D O U ⊢
  simp only[qB,seval,gd,xY,FY,FX,H,V,N,D,r.lenI,iW,X,hG,FQ,F6,O,U,Y,Z,JI,hw]
  clear H O U
  grind
 ·rintro f F _ H ⟨N,D,rfl,hr⟩
  unfold jz at D
  simp only[qB,seval,gd,xY,H,V,N,D,r.lenI,Int.lt_irrefl,hr,List.drop_length,Th]
theorem adN:be pE 132 [.agg (jz c a7 a8 a9 iq iy iv)] []=some (.i .i64 (Zh c),[]):=by
 have r:=aB6 c a7 a8 a9 iq iy iv hT hS
 have D:=aB7 c a7 a8 a9 iq iy iv hT hS
 rw[il aec (by simp[TN])]
 unfold Zh
 unfold jz at r D ⊢
 simp(maxDischargeDepth:=6) only[qB,seval,TN,F0,r,D]
 grind
end
theorem aB9(l:Cs)(a:T)(I:List T)(J:IsSl a l.length I)(hc:mf l I)(hlen:l.length≤qz)(n:Nat)(N:n<l.length)(c:Ct)(a8 a9 iq iy iv:T)(fr:Fr)(lh:iw b8)(sh:List b8)
  (O:an fr 1= .ptr .L 1 1 0) (g3:an fr 3= .i .i64 (n:Int)) (U:an fr 4= .i .i64 0) (K:b7 lh 1=⟨1,.cells (jz c a a8 a9 iq iy iv) 0 true⟩):
  xl pE 235 C2 fr lh sh 2 2 (if l[n].1∈(l.map Prod.fst).take n then 7 else 0) (fun D F=>D=lh∧F=sh):=by
 refine kj Jw (fun j f D F=>an f 4= .i .i64 (j:Int)∧D=lh∧F=sh∧l[n].1∉(l.map Prod.fst).take j) n ⟨U,rfl,rfl,by simp⟩ ?_ ?_
 ·rintro j f _ _ hj r ⟨H,rfl,rfl,hr⟩
  obtain⟨b,cb,rr,V,mZ,sg,hb⟩:=ot J hc j (by omega)
  obtain⟨b',W,X,Y,_⟩:=ot J hc n N
  have Z:=ji (k:=j) (by omega)
  have ZX:(j:Int)<n:=by omega
  unfold jz at K
  simp only[qB,seval,gd,C2,r,O,g3,H,ZX,V,Y,Z,K]
  clear r
  grind [List.mem_take_iff_getElem]
 ·rintro f _ _ r ⟨H,rfl,rfl,hr⟩
  simp only[qB,seval,gd,C2,r,g3,H,Int.lt_irrefl,hr]
theorem aCa(l:List Ru)(a:T)(I:List T)(N:IsSl a l.length I)(hc:iA S2 l I)(hlen:l.length≤qz)(n:Nat)(hn:n<l.length)(c:Ct)(a7 a9 iq iy iv:T)(O:List T)(G7:Nat)(fr:Fr)(lh:iw b8)(sh:List b8)(U:an fr 1= .ptr .L 1 1 0)(J:an fr 6= .i .i64 (n:Int))(V:an fr 7= .ptr .L 7 G7 0)(W:an fr 8= .i .i64 0)(K:b7 lh 1=⟨1,.cells (jz c a7 a a9 iq iy iv) 0 true⟩)(X:b7 lh 7=⟨G7,.cells (.i .i64 l[n].sc:: .s l[n].nm::O) 0 true⟩):
  xl pE 235 C0 fr lh sh 6 2 (if IX l[n]∈(l.map IX).take n then 7 else 0) (fun D F=>D=lh∧F=sh):=by
 refine kj Ju (fun j f D F=>an f 8= .i .i64 (j:Int)∧D=lh∧F=sh∧IX l[n]∉(l.map IX).take j) n ⟨W,rfl,rfl,by simp⟩ ?_ ?_
 ·rintro j f _ _ hj r ⟨H,rfl,rfl,hr⟩
  obtain⟨b,cb,rr,Y,mZ,hb⟩:=LJ N hc j (by omega)
  have Z:=ji (k:=j) (by omega)
  have ZX:(j:Int)<n:=by omega
  unfold jz at K
  simp only[qB,seval,gd,C0,r,U,J,V,H,ZX,Y,Z,K,X]
  clear r
  grind [List.mem_take_iff_getElem,IX]
 ·rintro f _ _ r ⟨H,rfl,rfl,hr⟩
  simp only[qB,seval,gd,C0,r,J,H,Int.lt_irrefl,hr]
section
variable(c:Ct)(a7 a8 a9 iq iy iv:T)(hT:um c a7 a8 a9 iq iy iv)(hS:AP c)
include hT hS
theorem aCb(fr:Fr)(lh:iw b8)(sh:List b8)(K:an fr 1= .ptr .L 1 1 0)(hi:an fr 3= .i .i64 0)(r:b7 lh 1=⟨1,.cells (jz c a7 a8 a9 iq iy iv) 0 true⟩):
  xl pE 235 C3 fr lh sh 0 2 (L0 [] c.cs) (fun D H=>b7 D 1=⟨1,.cells (jz c a7 a8 a9 iq iy iv) 0 true⟩∧H=sh):=by
 obtain⟨c7,F,N⟩:=hT.h7
 have hlen:=hS.s7.2
 refine kj Jx (fun k f D H=>an f 3= .i .i64 (k:Int)∧b7 D 1=⟨1,.cells (jz c a7 a8 a9 iq iy iv) 0 true⟩∧H=sh∧L0 [] c.cs=L0 ((c.cs.map Prod.fst).take k) (c.cs.drop k)) c.cs.length ⟨hi,r,rfl,rfl⟩ ?_ ?_
 ·rintro k f D _ hk I ⟨J,r,rfl,hr⟩
  rw[List.drop_eq_getElem_cons hk,L0]at hr
  obtain⟨b,Z,rr,U,V,sg,W⟩:=ot F N k hk
  have FQ:=kq (qy c.cs[k].1)
  have NX:=vP c.cs[k].2 _ W (hS.s7.1 c.cs[k] (List.getElem_mem hk)).2
  have O:=aB9 c.cs a7 c7 F N hlen k hk c a8 a9 iq iy iv
  have X:=ji (k:=k) (by omega)
  have Y:(k:Int)<c.cs.length:=by omega
  have qv:(c.cs.map Prod.fst).take (k+1)=(c.cs.map Prod.fst).take k++ [c.cs[k].1]:=by simp[List.take_succ_eq_append_getElem,hk]
  unfold jz at r O ⊢
  simp only[qB,seval,gd,C3,Jw,I,K,J,r,F.lenI,Y,U,FQ,F6,O,V.froz1,NX,N9,X]
  grind
 ·rintro f D _ I ⟨J,r,rfl,hr⟩
  unfold jz at r ⊢
  simp only[qB,seval,gd,C3,I,K,J,r,F.lenI,Int.lt_irrefl,hr,List.drop_length,L0]
theorem aCc(fr:Fr)(lh:iw b8)(sh:List b8)(K:an fr 1= .ptr .L 1 1 0)(hi:an fr 6= .i .i64 0)(r:b7 lh 1=⟨1,.cells (jz c a7 a8 a9 iq iy iv) 0 true⟩):
  xl pE 235 C1 fr lh sh 4 2 (IP [] c.ru) (fun D H=>b7 D 1=⟨1,.cells (jz c a7 a8 a9 iq iy iv) 0 true⟩∧H=sh):=by
 obtain⟨c8,F,N⟩:=hT.h8
 have hlen:=hS.s8.2
 refine kj Jv (fun k f D H=>an f 6= .i .i64 (k:Int)∧b7 D 1=⟨1,.cells (jz c a7 a8 a9 iq iy iv) 0 true⟩∧H=sh∧IP [] c.ru=IP ((c.ru.map IX).take k) (c.ru.drop k)) c.ru.length ⟨hi,r,rfl,rfl⟩ ?_ ?_
 ·rintro k f D _ hk I ⟨J,r,rfl,hr⟩
  rw[List.drop_eq_getElem_cons hk,IP]at hr
  obtain⟨b,cb,rr,U,V,W⟩:=LJ F N k hk
  have FQ:=kq (qy c.ru[k].nm)
  have X:=kq (tX c.ru[k].sc 1 3)
  have NX:=vP c.ru[k].x _ W (hS.s8.1 c.ru[k] (List.getElem_mem hk)).2
  obtain⟨G,Y⟩: ∃G,(b7 D 7).g+1=G:=⟨_,rfl⟩
  have O:=aCa c.ru a8 c8 F N hlen k hk c a7 a9 iq iy iv [.i .i64 c.ru[k].x.op,.i .i64 c.ru[k].x.num,.s c.ru[k].x.name,b] G
  have Z:=ji (k:=k) (by omega)
  have iW:(k:Int)<c.ru.length:=by omega
  have qv:(c.ru.map IX).take (k+1)=(c.ru.map IX).take k++ [(c.ru[k].sc,c.ru[k].nm)]:=by simp[List.take_succ_eq_append_getElem,hk,IX]
  unfold jz at r O ⊢
  simp only[qB,seval,gd,C1,Ju,I,K,J,r,F.lenI,iW,U,Y,FQ,F6,X,JI,O,V.froz1,NX,N9,Z]
  grind [IX]
 ·rintro f D _ I ⟨J,r,rfl,hr⟩
  unfold jz at r ⊢
  simp only[qB,seval,gd,C1,I,K,J,r,F.lenI,Int.lt_irrefl,hr,List.drop_length,IP]
theorem aCd(fr:Fr)(lh:iw b8)(sh:List b8)(K:an fr 1= .ptr .L 1 1 0)(hi:an fr 10= .i .i64 0)(r:b7 lh 1=⟨1,.cells (jz c a7 a8 a9 iq iy iv) 0 true⟩):
  xl pE 235 CZ fr lh sh 8 2 (KQ c.co) (fun D H=>b7 D 1=⟨1,.cells (jz c a7 a8 a9 iq iy iv) 0 true⟩∧H=sh):=by
 obtain⟨Z,I,N⟩:=hT.h9
 have hlen:=hS.s9.2
 refine kj Jt (fun k f D H=>an f 10= .i .i64 (k:Int)∧b7 D 1=⟨1,.cells (jz c a7 a8 a9 iq iy iv) 0 true⟩∧H=sh∧KQ c.co=KQ (c.co.drop k)) c.co.length ⟨hi,r,rfl,rfl⟩ ?_ ?_
 ·rintro k f D _ hk F ⟨J,r,rfl,hr⟩
  rw[List.drop_eq_getElem_cons hk,KQ]at hr
  obtain⟨b,cb,rr,O,U,V⟩:=Qj I N k hk
  have W:=kq (tX c.co[k].sc 1 3)
  have NX:=vP c.co[k].x _ V (hS.s9.1 c.co[k] (List.getElem_mem hk)).2
  have X:=ji (k:=k) (by omega)
  have Y:(k:Int)<c.co.length:=by omega
  unfold jz at r ⊢
  simp only[qB,seval,gd,CZ,F,K,J,r,I.lenI,Y,O,W,JI,U.froz1,NX,N9,X]
  clear F
  grind
 ·rintro f D _ F ⟨J,r,rfl,hr⟩
  unfold jz at r ⊢
  simp only[qB,seval,gd,CZ,F,K,J,r,I.lenI,Int.lt_irrefl,hr,List.drop_length,KQ]
theorem aCe(fr:Fr)(lh:iw b8)(sh:List b8)(K:an fr 1= .ptr .L 1 1 0)(hi:an fr 12= .i .i64 0)(r:b7 lh 1=⟨1,.cells (jz c a7 a8 a9 iq iy iv) 0 true⟩):
  xl pE 235 CY fr lh sh 10 2 (KR c.cr) (fun F I=>b7 F 1=⟨1,.cells (jz c a7 a8 a9 iq iy iv) 0 true⟩∧I=sh):=by
 obtain⟨FV,D,O2⟩:=hT.h10
 have hlen:=hS.s10.2
 refine kj Js (fun k f F I=>an f 12= .i .i64 (k:Int)∧b7 F 1=⟨1,.cells (jz c a7 a8 a9 iq iy iv) 0 true⟩∧I=sh∧KR c.cr=KR (c.cr.drop k)) c.cr.length ⟨hi,r,rfl,rfl⟩ ?_ ?_
 ·rintro k f F _ hk H ⟨J,r,rfl,hr⟩
  rw[List.drop_eq_getElem_cons hk,KR]at hr
  obtain⟨b,X,Y,N,O,Z,U⟩:=rY D O2 k hk
  have NX:=vP c.cr[k] _ U (hS.s10.1 c.cr[k] (List.getElem_mem hk)).2
  have V:=ji (k:=k) (by omega)
  have W:(k:Int)<c.cr.length:=by omega
  unfold jz at r ⊢
  simp only[qB,seval,gd,CY,H,K,J,r,D.lenI,W,N,O.froz1,NX,N9,V]
  clear H
  grind
 ·rintro f F _ H ⟨J,r,rfl,hr⟩
  unfold jz at r ⊢
  simp only[qB,seval,gd,CY,H,K,J,r,D.lenI,Int.lt_irrefl,hr,List.drop_length,KR]
end
section
variable(c:Ct)(a7 a8 a9 iq iy iv:T)(hT:um c a7 a8 a9 iq iy iv)(hS:AP c)
include hT hS
theorem YL:be pE 80 [.agg (jz c a7 a8 a9 iq iy iv)] []=some (.i .i64 (mW c),[]):=by
 have H:=adN c a7 a8 a9 iq iy iv hT hS
 have I:=aCb c a7 a8 a9 iq iy iv hT hS
 have J:=aCc c a7 a8 a9 iq iy iv hT hS
 have K:=aCd c a7 a8 a9 iq iy iv hT hS
 have N:=aCe c a7 a8 a9 iq iy iv hT hS
 obtain⟨⟨c7,O,W⟩,⟨c8,U,X⟩,⟨Y,V,Z⟩,⟨FV,r,O2⟩,⟨S4,D,RU⟩,⟨ZK,F,WY⟩⟩:=hT
 have w:=fun n lo hi=>kq (tX n lo hi)
 unfold jz at I J K N H ⊢
 rw[il apP (by simp[c80])]
 unfold mW pY qc
 simp(maxDischargeDepth:=6) only[qB,seval,c80,Js,Jt,Jv,Jx,O.lenI,U.lenI,V.lenI,r.lenI,D.lenI,F.lenI,O.froz1,U.froz1,V.froz1,r.froz1,D.froz1,F.froz1,w,JI,I,J,K,N,H,aqo]
 clear I J K N H w hS
 grind (splits:=40)
end
def kn3(s:List Nat):Prop:=lX 1 s≠0∨lX 2 s≠0∨lX 3 s≠0
instance (s:List Nat):Decidable (kn3 s):=by unfold kn3;infer_instance
def ZS(l:Cs):Nat→Cs→Int
 |_,[]=>0
 |k,c::r=>if kn3 c.1 then 7 else if(wq l k).2≠0 then(wq l k).2 else ZS l (k+1) r
def LU(l:Cs)(scope:Int)(x:Ex)(i:Int):Int:=if(BC l scope x).2=0∧(BC l scope x).1≠i then 9 else(BC l scope x).2
def S5(l:Cs):List Ru→Int
 | []=>0
 |u::r=>if LU l u.sc u.x 4≠0 then LU l u.sc u.x 4 else S5 l r
def S6(l:Cs):List Co→Int
 | []=>0
 |u::r=>if LU l u.sc u.x 1≠0 then LU l u.sc u.x 1 else S6 l r
def W8(l:Cs):List Ex→Int
 | []=>0
 |x::r=>if LU l 1 x 2≠0 then LU l 1 x 2 else W8 l r
def mI(c:Ct):Int:=if mW c≠0 then mW c else if ZS c.cs 0 c.cs≠0 then ZS c.cs 0 c.cs else if S5 c.cs c.ru≠0 then S5 c.cs c.ru else if S6 c.cs c.co≠0 then S6 c.cs c.co else W8 c.cs c.cr
def vh(l:Cs)(lT:T)(sh:List b8):Prop:= ∃kn,sh=xR lT (js l l.length) kn∧zK l kn
def auY(s:List Nat)(j:Nat):Prop:= ∀i:Nat,i<j→lX ((i:Int)+1) s=0
theorem aCf(s:List Nat)(K:List T)(G:Nat)(fr:Fr)(lh:iw b8)(sh:List b8)(N:an fr 6= .ptr .L 6 G 0)(O:an fr 7= .i .i64 1)(U:b7 lh 6=⟨G,.cells (.s s::K) 0 true⟩):
  xl pE 115 CU fr lh sh 2 2 (if kn3 s then 7 else 0) (fun F H=>F=lh∧H=sh):=by
 refine kj Jb (fun j f F H=>an f 7= .i .i64 ((j:Int)+1)∧F=lh∧H=sh∧auY s j) 3 ⟨O,rfl,rfl,fun i h=>by omega⟩ ?_ ?_
 ·rintro j f _ _ X r ⟨D,rfl,rfl,t⟩
  have I:=KB ((j:Int)+1) s
  unfold DW at I
  have J:(j:Int)+1≤3:=by omega
  have V:wr .i64 ((j:Int)+1+1)=((j+1:Nat):Int)+1:=jw (by omega)
  have hc:j=0∨j=1∨j=2:=by omega
  by_cases W:lX ((j:Int)+1) s=0 <;> simp only[qB,seval,gd,CU,r,N,D,U,J,V,I,W,Uh] <;> clear r I <;> grind [auY,kn3]
 ·rintro f _ _ r ⟨D,rfl,rfl,t⟩
  rw[show((3:Nat):Int)+1=4 from rfl]at D
  have a:=t 0 (by decide)
  have b:=t 1 (by decide)
  have c:=t 2 (by decide)
  simp only[qB,seval,gd,CU,r,D]
  unfold kn3
  grind
section
variable(l:Cs)(lT:T)(cl:List T)(hl:IsSl lT l.length cl)(mG:mf l cl)(hlen:l.length≤qz)(v9:smC l)
include hl mG hlen v9
theorem IC(scope r:Int)(x:Ex)(cs:List T)(hx:mU x cs)(J:Xf x)(sh:List b8)(U:vh l lT sh): ∃K,be pE 92 [.ptr .S 2 1 0,.i .i64 scope,.i .i64 (l.length:Int),.agg cs,.i .i64 r] sh=some (.i .i64 (LU l scope x r),K)∧vh l lT K:=by
 obtain⟨kn,rfl,V⟩:=U
 obtain⟨F,D,H,_⟩:=Yx l lT cl hl mG hlen l.length (Nat.le_refl _) (fun j W=>Yy l lT cl hl mG hlen v9 j W) scope x cs hx J.1 J.2 kn V
 have X:SF l l.length scope x=BC l scope x:=by unfold SF BC Ip;rw[List.take_length]
 rw[X]at D
 obtain⟨a,cc,rfl,I,KE⟩:=hx.cells
 rw[il ap7 (by simp[c92])]
 unfold LU
 generalize BC l scope x=q at*
 obtain⟨Y,Z⟩:=q
 simp only at D ⊢
 by_cases N:Z=0
 ·subst N
  by_cases O:Y=r
  ·subst O
   simp only[qA,seval,j2,c92,D,JL,I.kept1]
   exact⟨_,rfl,F,rfl,H⟩
  ·simp only[qA,seval,j2,c92,D,JL,I.kept1,O]
   exact⟨_,rfl,F,rfl,H⟩
 ·simp only[qA,seval,j2,c92,D,JL,I.kept1,N]
  exact⟨_,rfl,F,rfl,H⟩
end
section
variable(c:Ct)(a7 a8 a9 iq iy iv:T)(hT:um c a7 a8 a9 iq iy iv)(hS:AP c)
include hT hS
theorem aCg(I:b8)(fr:Fr)(lh:iw b8)(sh:List b8)(Y:vh c.cs a7 sh)
  (Z:an fr 4= .ptr .S 2 1 0) (J:an fr 31=a7) (BF:an fr 32= .i .i64 (c.cs.length:Int)) (D9:an fr 33= .i .i64 0) (D:b7 lh 1=I):
  xl pE 115 CV fr lh sh 0 2 (ZS c.cs 0 c.cs) (fun r F=>b7 r 1=I∧vh c.cs a7 F):=by
 obtain⟨c7,N,O⟩:=hT.h7
 have hlen:=hS.s7.2
 refine kj Jc (fun k f r F=>an f 33= .i .i64 (k:Int)∧b7 r 1=I∧vh c.cs a7 F∧ZS c.cs 0 c.cs=ZS c.cs k (c.cs.drop k)) c.cs.length ⟨D9,D,Y,rfl⟩ ?_ ?_
 ·rintro k f r _ hk H ⟨K,D,⟨kn,rfl,U⟩,hr⟩
  have iW:(k:Int)<c.cs.length:=by omega
  have hw:=ji (k:=k) (by omega)
  rw[List.drop_eq_getElem_cons hk,ZS]at hr
  obtain⟨b,cb,rr,je,mZ,sg,hb⟩:=ot N O k hk
  obtain⟨V,W,oz,_⟩:=Yy c.cs a7 c7 N O hlen hS.s7.1 k hk kn U
  obtain⟨G,hG⟩: ∃G,(b7 r 6).g+1=G:=⟨_,rfl⟩
  have X:=aCf c.cs[k].1 [.i .i64 c.cs[k].2.op,.i .i64 c.cs[k].2.num,.s c.cs[k].2.name,b] G
  have h1:vh c.cs a7 (xR a7 (js c.cs c.cs.length) kn):=⟨kn,rfl,U⟩
  have h2:vh c.cs a7 (xR a7 (js c.cs c.cs.length) V):=⟨V,rfl,oz⟩
  simp only[qB,seval,gd,j2,CV,H,Z,J,BF,K,D,iW,je,hw,hG,X,Jb,W,ap6,h1,h2]
  clear H X W
  grind
 ·rintro f r F H ⟨K,D,h,hr⟩
  simp only[qB,seval,gd,CV,H,BF,K,D,h,Int.lt_irrefl,hr,List.drop_length,ZS]
end
section
variable(c:Ct)(a7 a8 a9 iq iy iv:T)(hT:um c a7 a8 a9 iq iy iv)(hS:AP c)
include hT hS
theorem aCh(I:b8)(fr:Fr)(lh:iw b8)(sh:List b8)(O:vh c.cs a7 sh)
  (U:an fr 4= .ptr .S 2 1 0) (J:an fr 12= .i .i64 (c.cs.length:Int)) (hs:an fr 65=a8) (hl:an fr 66= .i .i64 (c.ru.length:Int)) (hi:an fr 67= .i .i64 0) (D:b7 lh 1=I):
  xl pE 115 CT fr lh sh 4 2 (S5 c.cs c.ru) (fun F r=>b7 F 1=I∧vh c.cs a7 r):=by
 obtain⟨c7,V,W⟩:=hT.h7
 obtain⟨c8,X,Y⟩:=hT.h8
 have hlen:=hS.s8.2
 refine kj Ja (fun k f F r=>an f 67= .i .i64 (k:Int)∧b7 F 1=I∧vh c.cs a7 r∧S5 c.cs c.ru=S5 c.cs (c.ru.drop k)) c.ru.length ⟨hi,D,O,rfl⟩ ?_ ?_
 ·rintro k f F r hk H ⟨K,D,Z,hr⟩
  have iW:(k:Int)<c.ru.length:=by omega
  have hw:=ji (k:=k) (by omega)
  rw[List.drop_eq_getElem_cons hk,S5]at hr
  obtain⟨b,cb,rr,je,mZ,hb⟩:=LJ X Y k hk
  obtain⟨sh2,N,Fg⟩:=IC c.cs a7 c7 V W hS.s7.2 hS.s7.1 c.ru[k].sc 4 c.ru[k].x _ hb (hS.s8.1 c.ru[k] (List.getElem_mem hk)) r Z
  simp only[qB,seval,gd,j2,CT,H,U,J,hs,hl,K,D,iW,je,hw,mZ.kept1,N,ag2,Fg]
  clear H N
  grind
 ·rintro f F r H ⟨K,D,h,hr⟩
  simp only[qB,seval,gd,CT,H,hl,K,D,h,Int.lt_irrefl,hr,List.drop_length,S5]
theorem aCi(I:b8)(fr:Fr)(lh:iw b8)(sh:List b8)(O:vh c.cs a7 sh)
  (U:an fr 4= .ptr .S 2 1 0) (J:an fr 12= .i .i64 (c.cs.length:Int)) (hs:an fr 83=a9) (hl:an fr 84= .i .i64 (c.co.length:Int)) (hi:an fr 85= .i .i64 0) (D:b7 lh 1=I):
  xl pE 115 CQ fr lh sh 6 2 (S6 c.cs c.co) (fun F r=>b7 F 1=I∧vh c.cs a7 r):=by
 obtain⟨c7,V,W⟩:=hT.h7
 obtain⟨c8,X,Y⟩:=hT.h9
 have hlen:=hS.s9.2
 refine kj I9 (fun k f F r=>an f 85= .i .i64 (k:Int)∧b7 F 1=I∧vh c.cs a7 r∧S6 c.cs c.co=S6 c.cs (c.co.drop k)) c.co.length ⟨hi,D,O,rfl⟩ ?_ ?_
 ·rintro k f F r hk H ⟨K,D,Z,hr⟩
  have iW:(k:Int)<c.co.length:=by omega
  have hw:=ji (k:=k) (by omega)
  rw[List.drop_eq_getElem_cons hk,S6]at hr
  obtain⟨b,cb,rr,je,mZ,hb⟩:=Qj X Y k hk
  obtain⟨sh2,N,Fg⟩:=IC c.cs a7 c7 V W hS.s7.2 hS.s7.1 c.co[k].sc 1 c.co[k].x _ hb (hS.s9.1 c.co[k] (List.getElem_mem hk)) r Z
  simp only[qB,seval,gd,j2,CQ,H,U,J,hs,hl,K,D,iW,je,hw,mZ.kept1,N,ag2,Fg]
  clear H N
  grind
 ·rintro f F r H ⟨K,D,h,hr⟩
  simp only[qB,seval,gd,CQ,H,hl,K,D,h,Int.lt_irrefl,hr,List.drop_length,S6]
theorem aCj(I:b8)(fr:Fr)(lh:iw b8)(sh:List b8)(O:vh c.cs a7 sh)
  (U:an fr 4= .ptr .S 2 1 0) (J:an fr 12= .i .i64 (c.cs.length:Int)) (hs:an fr 101=iq) (hl:an fr 102= .i .i64 (c.cr.length:Int)) (hi:an fr 103= .i .i64 0) (D:b7 lh 1=I):
  xl pE 115 CP fr lh sh 8 2 (W8 c.cs c.cr) (fun F r=>b7 F 1=I∧vh c.cs a7 r):=by
 obtain⟨c7,V,W⟩:=hT.h7
 obtain⟨c8,X,Y⟩:=hT.h10
 have hlen:=hS.s10.2
 refine kj I8 (fun k f F r=>an f 103= .i .i64 (k:Int)∧b7 F 1=I∧vh c.cs a7 r∧W8 c.cs c.cr=W8 c.cs (c.cr.drop k)) c.cr.length ⟨hi,D,O,rfl⟩ ?_ ?_
 ·rintro k f F r hk H ⟨K,D,Z,hr⟩
  have iW:(k:Int)<c.cr.length:=by omega
  have hw:=ji (k:=k) (by omega)
  rw[List.drop_eq_getElem_cons hk,W8]at hr
  obtain⟨b,cb,rr,je,mZ,sg,hb⟩:=rY X Y k hk
  obtain⟨sh2,N,Fg⟩:=IC c.cs a7 c7 V W hS.s7.2 hS.s7.1 1 2 c.cr[k] _ hb (hS.s10.1 c.cr[k] (List.getElem_mem hk)) r Z
  simp only[qB,seval,gd,j2,CP,H,U,J,hs,hl,K,D,iW,je,hw,mZ.kept1,N,ag2,Fg]
  clear H N
  grind
 ·rintro f F r H ⟨K,D,h,hr⟩
  simp only[qB,seval,gd,CP,H,hl,K,D,h,Int.lt_irrefl,hr,List.drop_length,W8]
theorem O3: ∃s,be pE 50 [.agg (jz c a7 a8 a9 iq iy iv)] []=some (.i .i64 (mI c),s):=by
 have r:=Zl c a7 a8 a9 iq iy iv hT hS
 have H:=aCg c a7 a8 a9 iq iy iv hT hS ⟨1,.cells (jz c a7 a8 a9 iq iy iv) 0 true⟩
 have I:=aCh c a7 a8 a9 iq iy iv hT hS ⟨1,.cells (jz c a7 a8 a9 iq iy iv) 0 true⟩
 have J:=aCi c a7 a8 a9 iq iy iv hT hS ⟨1,.cells (jz c a7 a8 a9 iq iy iv) 0 true⟩
 have K:=aCj c a7 a8 a9 iq iy iv hT hS ⟨1,.cells (jz c a7 a8 a9 iq iy iv) 0 true⟩
 obtain⟨⟨c7,F,Y⟩,⟨c8,V,Z⟩,⟨c9,W,j9⟩,⟨FV,D,O2⟩,⟨S4,N,RU⟩,⟨ZK,O,WY⟩⟩:=hT
 have X:=akm c.cs a7 c7 F Y hS.s7.2
 have U:vh c.cs a7 (xR a7 (js c.cs c.cs.length) []):=⟨[],rfl,fun i t h=>by cases h⟩
 unfold jz at H I J K r ⊢
 rw[il agQ (by simp[To])]
 unfold mI
 simp(maxDischargeDepth:=8) only[qB,seval,j2,To,I8,I9,Ja,Jc,F.lenI,V.lenI,W.lenI,D.lenI,F.kept,F.froz1,V.froz1,W.froz1,D.froz1,N.froz1,O.froz1,r,ap2,X,axO,U,H,I,J,K,ay1,asz]
 clear H I J K r X
 grind (splits:=30)
end
section
variable(c:Ct)(a7 a8 a9 iq iy iv:T)(hT:um c a7 a8 a9 iq iy iv)(hS:AP c)
include hT hS
end
def xu(n:Int):Bool:=decide (-840≤n)&&decide (n≤840)
def AS(n:Int):Bool:=decide (0≤n)&&decide (n<52596000)
theorem Qm(n:Int):be pE 134 [.i .i64 n] []=some (.b (xu n),[]):=by
 rw[il aee (by simp[TO])]
 unfold xu
 by_cases h: -840≤n <;> simp only[qA,seval,TO,h]
theorem O8(n:Int):be pE 135 [.i .i64 n] []=some (.b (AS n),[]):=by
 rw[il aef (by simp[TP])]
 unfold AS
 by_cases h:0≤n <;> simp only[qA,seval,TP,h]
structure Zo where
 nm:List Nat
 o:Int
 sh:List (Int×Int)
def ZL(s:Int×Int)(c:List T):Prop:=c= [.i .i64 s.1,.i .i64 s.2]
theorem ZL.len(s:Int×Int)(c:List T)(h:ZL s c):c.length=2:=by rw[h];rfl
def M7(i:Option Int):List (Int×Int)→Int
 | []=>0
 |s::r=>if(AS s.1&&xu s.2)=false then 5 else if(match i with|some p=>decide (s.1≤p)|none=>false)=true then 8 else M7 (some s.1) r
def zQ(l:List (Int×Int))(k:Nat):Option Int:=if k=0 then none else(l[k-1]?).map (·.1)
theorem alb{l:List (Int×Int)}{k:Nat}(hk:k<l.length):M7 (zQ l k) (l.drop k)=if(AS l[k].1&&xu l[k].2)=false then 5 else if(match zQ l k with|some p=>decide (l[k].1≤p)|none=>false)=true then 8 else M7 (zQ l (k+1)) (l.drop (k+1)):=by
 have e:zQ l (k+1)=some l[k].1:=by unfold zQ;rw[if_neg (by omega),Nat.add_sub_cancel,List.getElem?_eq_getElem hk];rfl
 rw[List.drop_eq_getElem_cons hk,e]
 conv=>lhs;unfold M7
theorem SS{l:List (Int×Int)}{k:Nat}(i:0<k)(hk:k-1<l.length):zQ l k=some l[k-1].1:=by
 unfold zQ;rw[if_neg (by omega),List.getElem?_eq_getElem hk];rfl
theorem tQ{k:Nat}(i:0<k)(h:k<4611686018427387904):wr .i64 ((k:Int)-1)=((k-1:Nat):Int):=by rw[jw (by omega)];omega
def oD(z:Zo):Int:=if oe z.nm=false then 1 else if xu z.o=false then 5 else if 16<z.sh.length then 10 else M7 none z.sh
theorem O7{l:List (Int×Int)}{a:T}{D:List T}(H:IsSl a l.length D)(hc:iA ZL l D){k:Nat}(hk:k<l.length): ∃r,∀kk,lR a (.i kk (k:Int)) 2=some (.vp (.i .i64 l[k].1:: .i .i64 l[k].2::r)):=by
 obtain⟨c,r,I,F⟩:=pt (k:=2) ZL.len H hc k hk
 rw[ZL]at F
 subst F
 exact⟨r,I⟩
theorem aCk(z:Zo)(a:T)(N:List T)(O:IsSl a z.sh.length N)(hc:iA ZL z.sh N)(hlen:z.sh.length≤16)(fr:Fr)(lh:iw b8)(sh:List b8)
  (h1:an fr 1= .ptr .L 1 1 0) (U:an fr 18=a) (E6:an fr 19= .i .i64 (z.sh.length:Int)) (I:an fr 20= .i .i64 0) (D:b7 lh 1=⟨1,.cells [.s z.nm,.i .i64 z.o,a] 0 true⟩):
  xl pE 50 An fr lh sh 0 2 (M7 none z.sh) (fun F J=>J=sh):=by
 refine kj Tv (fun k f F J=>an f 20= .i .i64 (k:Int)∧b7 F 1=⟨1,.cells [.s z.nm,.i .i64 z.o,a] 0 true⟩∧J=sh∧M7 none z.sh=M7 (zQ z.sh k) (z.sh.drop k)) z.sh.length ⟨I,D,rfl,rfl⟩ ?_ ?_
 ·rintro k f F _ hk r ⟨H,D,rfl,hr⟩
  rw[alb hk]at hr
  have V:(k:Int)<z.sh.length:=by omega
  have W:=iO (k:=k) (by omega)
  obtain⟨rr,X⟩:=O7 O hc hk
  have Y:=kq (O8 z.sh[k].1)
  have Z:=kq (Qm z.sh[k].2)
  by_cases LX:k=0
  ·have K: ¬(0:Int)<k:=by omega
   have hp:zQ z.sh k=none:=by rw[LX];rfl
   simp only[qB,seval,gd,An,r,U,E6,H,D,V,X,Y,Z,K,W,Us,Oa]
   clear r
   grind
  ·have K:(0:Int)<k:=by omega
   have S7:=tQ (k:=k) (by omega) (by omega)
   obtain⟨r2,YN⟩:=O7 O hc (k:=k-1) (by omega)
   have hp:=SS (l:=z.sh) (k:=k) (by omega) (by omega)
   simp only[qB,seval,gd,An,r,h1,U,E6,H,D,V,X,Y,Z,K,W,S7,YN,Us,Oa]
   clear r
   grind
 ·rintro f F _ r ⟨H,D,rfl,hr⟩
  simp only[qB,seval,gd,An,r,E6,H,Int.lt_irrefl,hr,List.drop_length,M7]
theorem D7(z:Zo)(a:T)(r:List T)(D:IsSl a z.sh.length r)(hc:iA ZL z.sh r):be pE 84 [.agg [.s z.nm,.i .i64 z.o,a]] []=some (.i .i64 (oD z),[]):=by
 rw[il apX (by simp[c84])]
 have F:=kq (zd z.nm)
 have H:=kq (Qm z.o)
 unfold oD
 by_cases hl:z.sh.length≤16
 ·have I:=aCk z a r D hc hl
  simp only[qB,seval,c84,F,H,D.lenI,I,JJ,Oa]
  grind
 ·simp only[qB,seval,c84,F,H,D.lenI,JJ,Oa]
  grind
mutual
def Ex.al:Ex→Prop
 | .mk _ _ _ args=>args.length≤oY∧alL args
def alL:List Ex→Prop
 | []=>True
 |x::xs=>x.al∧alL xs
end
structure CtA (c:Ct):Prop where
 a7:(∀u∈c.cs,u.2.al)∧c.cs.length≤oY
 a8:(∀u∈c.ru,u.x.al)∧c.ru.length≤oY
 a9:(∀u∈c.co,u.x.al)∧c.co.length≤oY
 iq:(∀u∈c.cr,u.al)∧c.cr.length≤oY
 iy:c.li.length≤oY
 iv:c.fs.length≤oY
end Go.Proofs.YtcpceiclnbmgiaaGreat
