/- Walks of functions of the program and of the reference, and their plain laws, part 7. Conditions: the theorems' own. -/
import Derived.Test.YtcpceiclnbmgiaaGreatM6
import Derived.KernelRfl
set_option maxRecDepth 100000
set_option linter.unusedSimpArgs false
set_option linter.unusedVariables false
set_option maxHeartbeats 16000000
namespace Go.Proofs.YtcpceiclnbmgiaaGreat
open Go Go.Ev
section
variable(c:Ct)(a7 a8 a9 iv iy iw:T)(hT:tp c a7 a8 a9 iv iy iw)(hS:A1 c)
include hT hS
theorem aCC(fr:Fr)(lh:iq b8)(sh:List b8)(O:an fr 1= .ptr .L 1 1 0)(U:an fr 3= .i .i64 0)(D:b7 lh 1=⟨1,.cells (jB c a7 a8 a9 iv iy iw) 0 true⟩):
  xy pE 112 yj fr lh sh 0 2 (QF [] c.li) (fun F I=>b7 F 1=⟨1,.cells (jB c a7 a8 a9 iv iy iw) 0 true⟩∧I=sh):=by
 obtain⟨Tu,r,Po⟩:=hT.h11
 have hlen:=hS.s11
 refine kj F8 (fun k f F I=>an f 3= .i .i64 (k:Int)∧b7 F 1=⟨1,.cells (jB c a7 a8 a9 iv iy iw) 0 true⟩∧I=sh∧QF [] c.li=QF ((c.li.map Li.nm).take k) (c.li.drop k)) c.li.length ⟨U,D,rfl,rfl⟩ ?_ ?_
 ·rintro k f F _ hk H ⟨J,D,rfl,hr⟩
  rw[List.drop_eq_getElem_cons hk,QF]at hr
  obtain⟨rr,V⟩:=QE r Po k hk
  have FZ:=kq (qJ c.li[k].nm)
  obtain⟨me,W,K⟩:=ZC c.li[k].me
  have X:=kq (um c.li[k].mo 0 599999)
  have Y:=kq (um c.li[k].da 1 31)
  obtain⟨G,Z⟩: ∃G,(b7 F 4).g+1=G:=⟨_,rfl⟩
  have N:=aCz c.li iy Tu r Po hlen k (by omega) c.li[k].nm c a7 a8 a9 iv iw [.s c.li[k].me,.i .i64 c.li[k].mo,.i .i64 c.li[k].da] G
  have hw:=ji (k:=k) (by omega)
  have iX:(k:Int)<c.li.length:=by omega
  have qG:(c.li.map Li.nm).take (k+1)=(c.li.map Li.nm).take k++ [c.li[k].nm]:=by simp[List.take_succ_eq_append_getElem,hk]
  unfold jB at D N ⊢
  simp only[qB,seval,gd,yj,F7,H,O,J,D,r.lenI,iX,V,Z,FZ,Gh,N,K,aqH,X,Y,JW,hw]
  clear H N
  grind
 ·rintro f F _ H ⟨J,D,rfl,hr⟩
  unfold jB at D ⊢
  simp only[qB,seval,gd,yj,H,O,J,D,r.lenI,Int.lt_irrefl,hr,List.drop_length,QF]
theorem aCD(fr:Fr)(lh:iq b8)(sh:List b8)(V:an fr 1= .ptr .L 1 1 0)(W:an fr 6= .i .i64 0)(D:b7 lh 1=⟨1,.cells (jB c a7 a8 a9 iv iy iw) 0 true⟩):
  xy pE 112 yh fr lh sh 4 2 (TK (c.li.map Li.nm) c.fs) (fun F I=>I=sh):=by
 obtain⟨Tu,J,Po⟩:=hT.h11
 obtain⟨Mf,r,Tv⟩:=hT.h12
 have K:=hS.s11
 have hlen:=hS.s12
 refine kj QM (fun k f F I=>an f 6= .i .i64 (k:Int)∧b7 F 1=⟨1,.cells (jB c a7 a8 a9 iv iy iw) 0 true⟩∧I=sh∧TK (c.li.map Li.nm) c.fs=TK (c.li.map Li.nm++(c.fs.map Of.nm).take k) (c.fs.drop k)) c.fs.length ⟨W,D,rfl,by simp⟩ ?_ ?_
 ·rintro k f F _ hk H ⟨N,D,rfl,hr⟩
  rw[List.drop_eq_getElem_cons hk,TK]at hr
  obtain⟨rr,X⟩:=Zx r Tv k hk
  have FZ:=kq (qJ c.fs[k].nm)
  have Y:=kq (um c.fs[k].da 1 31)
  have Z:=kq (um c.fs[k].ct 1 c.fs[k].da)
  obtain⟨G,hG⟩: ∃G,(b7 F 7).g+1=G:=⟨_,rfl⟩
  have O:=aCA c.li iy Tu J Po K c.fs[k].nm c a7 a8 a9 iv iw [.i .i64 c.fs[k].ct,.i .i64 c.fs[k].da] G
  have U:=aCB c.fs iw Mf r Tv hlen k (by omega) c.fs[k].nm c a7 a8 a9 iv iy [.i .i64 c.fs[k].ct,.i .i64 c.fs[k].da] G
  have hw:=ji (k:=k) (by omega)
  have iX:(k:Int)<c.fs.length:=by omega
  have qG:(c.fs.map Of.nm).take (k+1)=(c.fs.map Of.nm).take k++ [c.fs[k].nm]:=by simp[List.take_succ_eq_append_getElem,hk]
  unfold jB at D O U ⊢
  simp only[qB,seval,gd,yh,F6,F5,H,V,N,D,r.lenI,iX,X,hG,FZ,Gh,O,U,Y,Z,JW,hw]
  clear H O U
  grind
 ·rintro f F _ H ⟨N,D,rfl,hr⟩
  unfold jB at D
  simp only[qB,seval,gd,yh,H,V,N,D,r.lenI,Int.lt_irrefl,hr,List.drop_length,TK]
theorem ad8:be pE 132 [.agg (jB c a7 a8 a9 iv iy iw)] []=some (.i .i64 (Zz c),[]):=by
 have r:=aCC c a7 a8 a9 iv iy iw hT hS
 have D:=aCD c a7 a8 a9 iv iy iw hT hS
 rw[il aey (by simp[Ud])]
 unfold Zz
 unfold jB at r D ⊢
 simp(maxDischargeDepth:=6) only[qB,seval,Ud,F8,r,D]
 grind
end
theorem aCF(l:Cs)(a:T)(I:List T)(J:IsSl a l.length I)(hc:mh l I)(hlen:l.length≤qK)(n:Nat)(N:n<l.length)(c:Ct)(a8 a9 iv iy iw:T)(fr:Fr)(lh:iq b8)(sh:List b8)
  (O:an fr 1= .ptr .L 1 1 0) (g3:an fr 3= .i .i64 (n:Int)) (U:an fr 4= .i .i64 0) (K:b7 lh 1=⟨1,.cells (jB c a a8 a9 iv iy iw) 0 true⟩):
  xy pE 235 Di fr lh sh 2 2 (if l[n].1∈(l.map Prod.fst).take n then 7 else 0) (fun D F=>D=lh∧F=sh):=by
 refine kj JK (fun j f D F=>an f 4= .i .i64 (j:Int)∧D=lh∧F=sh∧l[n].1∉(l.map Prod.fst).take j) n ⟨U,rfl,rfl,by simp⟩ ?_ ?_
 ·rintro j f _ _ hj r ⟨H,rfl,rfl,hr⟩
  obtain⟨b,cb,rr,V,m9,sx,hb⟩:=oE J hc j (by omega)
  obtain⟨b',W,X,Y,_⟩:=oE J hc n N
  have Z:=ji (k:=j) (by omega)
  have Z9:(j:Int)<n:=by omega
  unfold jB at K
  simp only[qB,seval,gd,Di,r,O,g3,H,Z9,V,Y,Z,K]
  clear r
  grind [List.mem_take_iff_getElem]
 ·rintro f _ _ r ⟨H,rfl,rfl,hr⟩
  simp only[qB,seval,gd,Di,r,g3,H,Int.lt_irrefl,hr]
theorem aCG(l:List Ru)(a:T)(I:List T)(N:IsSl a l.length I)(hc:iA Tq l I)(hlen:l.length≤qK)(n:Nat)(hn:n<l.length)(c:Ct)(a7 a9 iv iy iw:T)(O:List T)(G7:Nat)(fr:Fr)(lh:iq b8)(sh:List b8)(U:an fr 1= .ptr .L 1 1 0)(J:an fr 6= .i .i64 (n:Int))(V:an fr 7= .ptr .L 7 G7 0)(W:an fr 8= .i .i64 0)(K:b7 lh 1=⟨1,.cells (jB c a7 a a9 iv iy iw) 0 true⟩)(X:b7 lh 7=⟨G7,.cells (.i .i64 l[n].sc:: .s l[n].nm::O) 0 true⟩):
  xy pE 235 Dg fr lh sh 6 2 (if Jb l[n]∈(l.map Jb).take n then 7 else 0) (fun D F=>D=lh∧F=sh):=by
 refine kj JI (fun j f D F=>an f 8= .i .i64 (j:Int)∧D=lh∧F=sh∧Jb l[n]∉(l.map Jb).take j) n ⟨W,rfl,rfl,by simp⟩ ?_ ?_
 ·rintro j f _ _ hj r ⟨H,rfl,rfl,hr⟩
  obtain⟨b,cb,rr,Y,m9,hb⟩:=L7 N hc j (by omega)
  have Z:=ji (k:=j) (by omega)
  have Z9:(j:Int)<n:=by omega
  unfold jB at K
  simp only[qB,seval,gd,Dg,r,U,J,V,H,Z9,Y,Z,K,X]
  clear r
  grind [List.mem_take_iff_getElem,Jb]
 ·rintro f _ _ r ⟨H,rfl,rfl,hr⟩
  simp only[qB,seval,gd,Dg,r,J,H,Int.lt_irrefl,hr]
section
variable(c:Ct)(a7 a8 a9 iv iy iw:T)(hT:tp c a7 a8 a9 iv iy iw)(hS:A1 c)
include hT hS
theorem aCH(fr:Fr)(lh:iq b8)(sh:List b8)(K:an fr 1= .ptr .L 1 1 0)(hi:an fr 3= .i .i64 0)(r:b7 lh 1=⟨1,.cells (jB c a7 a8 a9 iv iy iw) 0 true⟩):
  xy pE 235 Dj fr lh sh 0 2 (Mp [] c.cs) (fun D H=>b7 D 1=⟨1,.cells (jB c a7 a8 a9 iv iy iw) 0 true⟩∧H=sh):=by
 obtain⟨c7,F,N⟩:=hT.h7
 have hlen:=hS.s7.2
 refine kj JL (fun k f D H=>an f 3= .i .i64 (k:Int)∧b7 D 1=⟨1,.cells (jB c a7 a8 a9 iv iy iw) 0 true⟩∧H=sh∧Mp [] c.cs=Mp ((c.cs.map Prod.fst).take k) (c.cs.drop k)) c.cs.length ⟨hi,r,rfl,rfl⟩ ?_ ?_
 ·rintro k f D _ hk I ⟨J,r,rfl,hr⟩
  rw[List.drop_eq_getElem_cons hk,Mp]at hr
  obtain⟨b,Z,rr,U,V,sx,W⟩:=oE F N k hk
  have FZ:=kq (qJ c.cs[k].1)
  have Oq:=wb c.cs[k].2 _ W (hS.s7.1 c.cs[k] (List.getElem_mem hk)).2
  have O:=aCF c.cs a7 c7 F N hlen k hk c a8 a9 iv iy iw
  have X:=ji (k:=k) (by omega)
  have Y:(k:Int)<c.cs.length:=by omega
  have qG:(c.cs.map Prod.fst).take (k+1)=(c.cs.map Prod.fst).take k++ [c.cs[k].1]:=by simp[List.take_succ_eq_append_getElem,hk]
  unfold jB at r O ⊢
  simp only[qB,seval,gd,Dj,JK,I,K,J,r,F.lenI,Y,U,FZ,Gh,O,V.froz1,Oq,Oz,X]
  grind
 ·rintro f D _ I ⟨J,r,rfl,hr⟩
  unfold jB at r ⊢
  simp only[qB,seval,gd,Dj,I,K,J,r,F.lenI,Int.lt_irrefl,hr,List.drop_length,Mp]
theorem aCI(fr:Fr)(lh:iq b8)(sh:List b8)(K:an fr 1= .ptr .L 1 1 0)(hi:an fr 6= .i .i64 0)(r:b7 lh 1=⟨1,.cells (jB c a7 a8 a9 iv iy iw) 0 true⟩):
  xy pE 235 Dh fr lh sh 4 2 (I4 [] c.ru) (fun D H=>b7 D 1=⟨1,.cells (jB c a7 a8 a9 iv iy iw) 0 true⟩∧H=sh):=by
 obtain⟨c8,F,N⟩:=hT.h8
 have hlen:=hS.s8.2
 refine kj JJ (fun k f D H=>an f 6= .i .i64 (k:Int)∧b7 D 1=⟨1,.cells (jB c a7 a8 a9 iv iy iw) 0 true⟩∧H=sh∧I4 [] c.ru=I4 ((c.ru.map Jb).take k) (c.ru.drop k)) c.ru.length ⟨hi,r,rfl,rfl⟩ ?_ ?_
 ·rintro k f D _ hk I ⟨J,r,rfl,hr⟩
  rw[List.drop_eq_getElem_cons hk,I4]at hr
  obtain⟨b,cb,rr,U,V,W⟩:=L7 F N k hk
  have FZ:=kq (qJ c.ru[k].nm)
  have X:=kq (um c.ru[k].sc 1 3)
  have Oq:=wb c.ru[k].x _ W (hS.s8.1 c.ru[k] (List.getElem_mem hk)).2
  obtain⟨G,Y⟩: ∃G,(b7 D 7).g+1=G:=⟨_,rfl⟩
  have O:=aCG c.ru a8 c8 F N hlen k hk c a7 a9 iv iy iw [.i .i64 c.ru[k].x.op,.i .i64 c.ru[k].x.num,.s c.ru[k].x.name,b] G
  have Z:=ji (k:=k) (by omega)
  have iX:(k:Int)<c.ru.length:=by omega
  have qG:(c.ru.map Jb).take (k+1)=(c.ru.map Jb).take k++ [(c.ru[k].sc,c.ru[k].nm)]:=by simp[List.take_succ_eq_append_getElem,hk,Jb]
  unfold jB at r O ⊢
  simp only[qB,seval,gd,Dh,JI,I,K,J,r,F.lenI,iX,U,Y,FZ,Gh,X,JW,O,V.froz1,Oq,Oz,Z]
  grind [Jb]
 ·rintro f D _ I ⟨J,r,rfl,hr⟩
  unfold jB at r ⊢
  simp only[qB,seval,gd,Dh,I,K,J,r,F.lenI,Int.lt_irrefl,hr,List.drop_length,I4]
theorem aCJ(fr:Fr)(lh:iq b8)(sh:List b8)(K:an fr 1= .ptr .L 1 1 0)(hi:an fr 10= .i .i64 0)(r:b7 lh 1=⟨1,.cells (jB c a7 a8 a9 iv iy iw) 0 true⟩):
  xy pE 235 Df fr lh sh 8 2 (K4 c.co) (fun D H=>b7 D 1=⟨1,.cells (jB c a7 a8 a9 iv iy iw) 0 true⟩∧H=sh):=by
 obtain⟨Z,I,N⟩:=hT.h9
 have hlen:=hS.s9.2
 refine kj JH (fun k f D H=>an f 10= .i .i64 (k:Int)∧b7 D 1=⟨1,.cells (jB c a7 a8 a9 iv iy iw) 0 true⟩∧H=sh∧K4 c.co=K4 (c.co.drop k)) c.co.length ⟨hi,r,rfl,rfl⟩ ?_ ?_
 ·rintro k f D _ hk F ⟨J,r,rfl,hr⟩
  rw[List.drop_eq_getElem_cons hk,K4]at hr
  obtain⟨b,cb,rr,O,U,V⟩:=QD I N k hk
  have W:=kq (um c.co[k].sc 1 3)
  have Oq:=wb c.co[k].x _ V (hS.s9.1 c.co[k] (List.getElem_mem hk)).2
  have X:=ji (k:=k) (by omega)
  have Y:(k:Int)<c.co.length:=by omega
  unfold jB at r ⊢
  simp only[qB,seval,gd,Df,F,K,J,r,I.lenI,Y,O,W,JW,U.froz1,Oq,Oz,X]
  clear F
  grind
 ·rintro f D _ F ⟨J,r,rfl,hr⟩
  unfold jB at r ⊢
  simp only[qB,seval,gd,Df,F,K,J,r,I.lenI,Int.lt_irrefl,hr,List.drop_length,K4]
theorem aCK(fr:Fr)(lh:iq b8)(sh:List b8)(K:an fr 1= .ptr .L 1 1 0)(hi:an fr 12= .i .i64 0)(r:b7 lh 1=⟨1,.cells (jB c a7 a8 a9 iv iy iw) 0 true⟩):
  xy pE 235 De fr lh sh 10 2 (K5 c.cr) (fun F I=>b7 F 1=⟨1,.cells (jB c a7 a8 a9 iv iy iw) 0 true⟩∧I=sh):=by
 obtain⟨F3,D,Nn⟩:=hT.h10
 have hlen:=hS.s10.2
 refine kj JG (fun k f F I=>an f 12= .i .i64 (k:Int)∧b7 F 1=⟨1,.cells (jB c a7 a8 a9 iv iy iw) 0 true⟩∧I=sh∧K5 c.cr=K5 (c.cr.drop k)) c.cr.length ⟨hi,r,rfl,rfl⟩ ?_ ?_
 ·rintro k f F _ hk H ⟨J,r,rfl,hr⟩
  rw[List.drop_eq_getElem_cons hk,K5]at hr
  obtain⟨b,X,Y,N,O,Z,U⟩:=si D Nn k hk
  have Oq:=wb c.cr[k] _ U (hS.s10.1 c.cr[k] (List.getElem_mem hk)).2
  have V:=ji (k:=k) (by omega)
  have W:(k:Int)<c.cr.length:=by omega
  unfold jB at r ⊢
  simp only[qB,seval,gd,De,H,K,J,r,D.lenI,W,N,O.froz1,Oq,Oz,V]
  clear H
  grind
 ·rintro f F _ H ⟨J,r,rfl,hr⟩
  unfold jB at r ⊢
  simp only[qB,seval,gd,De,H,K,J,r,D.lenI,Int.lt_irrefl,hr,List.drop_length,K5]
end
section
variable(c:Ct)(a7 a8 a9 iv iy iw:T)(hT:tp c a7 a8 a9 iv iy iw)(hS:A1 c)
include hT hS
theorem Y7:be pE 80 [.agg (jB c a7 a8 a9 iv iy iw)] []=some (.i .i64 (m5 c),[]):=by
 have H:=ad8 c a7 a8 a9 iv iy iw hT hS
 have I:=aCH c a7 a8 a9 iv iy iw hT hS
 have J:=aCI c a7 a8 a9 iv iy iw hT hS
 have K:=aCJ c a7 a8 a9 iv iy iw hT hS
 have N:=aCK c a7 a8 a9 iv iy iw hT hS
 obtain⟨⟨c7,O,W⟩,⟨c8,U,X⟩,⟨Y,V,Z⟩,⟨F3,r,Nn⟩,⟨Tu,D,Po⟩,⟨Mf,F,Tv⟩⟩:=hT
 have w:=fun n lo hi=>kq (um n lo hi)
 unfold jB at I J K N H ⊢
 rw[il aqb (by simp[c80])]
 unfold m5 qe qo
 simp(maxDischargeDepth:=6) only[qB,seval,c80,JG,JH,JJ,JL,O.lenI,U.lenI,V.lenI,r.lenI,D.lenI,F.lenI,O.froz1,U.froz1,V.froz1,r.froz1,D.froz1,F.froz1,w,JW,I,J,K,N,H,aqI]
 clear I J K N H w hS
 grind (splits:=40)
end
def kn3(s:List Nat):Prop:=l6 1 s≠0∨l6 2 s≠0∨l6 3 s≠0
instance (s:List Nat):Decidable (kn3 s):=by unfold kn3;infer_instance
def Z4(l:Cs):Nat→Cs→Int
 |_,[]=>0
 |k,c::r=>if kn3 c.1 then 7 else if(wI l k).2≠0 then(wI l k).2 else Z4 l (k+1) r
def Mi(l:Cs)(scope:Int)(x:Ex)(i:Int):Int:=if(BO l scope x).2=0∧(BO l scope x).1≠i then 9 else(BO l scope x).2
def Tw(l:Cs):List Ru→Int
 | []=>0
 |u::r=>if Mi l u.sc u.x 4≠0 then Mi l u.sc u.x 4 else Tw l r
def Tx(l:Cs):List Co→Int
 | []=>0
 |u::r=>if Mi l u.sc u.x 1≠0 then Mi l u.sc u.x 1 else Tx l r
def Xw(l:Cs):List Ex→Int
 | []=>0
 |x::r=>if Mi l 1 x 2≠0 then Mi l 1 x 2 else Xw l r
def mK(c:Ct):Int:=if m5 c≠0 then m5 c else if Z4 c.cs 0 c.cs≠0 then Z4 c.cs 0 c.cs else if Tw c.cs c.ru≠0 then Tw c.cs c.ru else if Tx c.cs c.co≠0 then Tx c.cs c.co else Xw c.cs c.cr
def vG(l:Cs)(lT:T)(sh:List b8):Prop:= ∃kn,sh=xW lT (jt l l.length) kn∧zU l kn
def avh(s:List Nat)(j:Nat):Prop:= ∀i:Nat,i<j→l6 ((i:Int)+1) s=0
theorem aCL(s:List Nat)(K:List T)(G:Nat)(fr:Fr)(lh:iq b8)(sh:List b8)(N:an fr 6= .ptr .L 6 G 0)(O:an fr 7= .i .i64 1)(U:b7 lh 6=⟨G,.cells (.s s::K) 0 true⟩):
  xy pE 115 Da fr lh sh 2 2 (if kn3 s then 7 else 0) (fun F H=>F=lh∧H=sh):=by
 refine kj Jp (fun j f F H=>an f 7= .i .i64 ((j:Int)+1)∧F=lh∧H=sh∧avh s j) 3 ⟨O,rfl,rfl,fun i h=>by omega⟩ ?_ ?_
 ·rintro j f _ _ X r ⟨D,rfl,rfl,t⟩
  have I:=KQ ((j:Int)+1) s
  unfold Ef at I
  have J:(j:Int)+1≤3:=by omega
  have V:wr .i64 ((j:Int)+1+1)=((j+1:Nat):Int)+1:=js (by omega)
  have hc:j=0∨j=1∨j=2:=by omega
  by_cases W:l6 ((j:Int)+1) s=0 <;> simp only[qB,seval,gd,Da,r,N,D,U,J,V,I,W,UI] <;> clear r I <;> grind [avh,kn3]
 ·rintro f _ _ r ⟨D,rfl,rfl,t⟩
  rw[show((3:Nat):Int)+1=4 from rfl]at D
  have a:=t 0 (by decide)
  have b:=t 1 (by decide)
  have c:=t 2 (by decide)
  simp only[qB,seval,gd,Da,r,D]
  unfold kn3
  grind
section
variable(l:Cs)(lT:T)(cl:List T)(hl:IsSl lT l.length cl)(mJ:mh l cl)(hlen:l.length≤qK)(wu:smC l)
include hl mJ hlen wu
theorem IS(scope r:Int)(x:Ex)(cs:List T)(hx:mY x cs)(J:XE x)(sh:List b8)(U:vG l lT sh): ∃K,be pE 92 [.ptr .S 2 1 0,.i .i64 scope,.i .i64 (l.length:Int),.agg cs,.i .i64 r] sh=some (.i .i64 (Mi l scope x r),K)∧vG l lT K:=by
 obtain⟨kn,rfl,V⟩:=U
 obtain⟨F,D,H,_⟩:=YT l lT cl hl mJ hlen l.length (Nat.le_refl _) (fun j W=>YU l lT cl hl mJ hlen wu j W) scope x cs hx J.1 J.2 kn V
 have X:SX l l.length scope x=BO l scope x:=by unfold SX BO IA;rw[List.take_length]
 rw[X]at D
 obtain⟨a,cc,rfl,I,KT⟩:=hx.cells
 rw[il aqr (by simp[c92])]
 unfold Mi
 generalize BO l scope x=q at*
 obtain⟨Y,Z⟩:=q
 simp only at D ⊢
 by_cases N:Z=0
 ·subst N
  by_cases O:Y=r
  ·subst O
   simp only[qA,seval,j3,c92,D,JZ,I.kept1]
   exact⟨_,rfl,F,rfl,H⟩
  ·simp only[qA,seval,j3,c92,D,JZ,I.kept1,O]
   exact⟨_,rfl,F,rfl,H⟩
 ·simp only[qA,seval,j3,c92,D,JZ,I.kept1,N]
  exact⟨_,rfl,F,rfl,H⟩
end
section
variable(c:Ct)(a7 a8 a9 iv iy iw:T)(hT:tp c a7 a8 a9 iv iy iw)(hS:A1 c)
include hT hS
theorem aCM(I:b8)(fr:Fr)(lh:iq b8)(sh:List b8)(Y:vG c.cs a7 sh)
  (Z:an fr 4= .ptr .S 2 1 0) (J:an fr 31=a7) (BS:an fr 32= .i .i64 (c.cs.length:Int)) (Es:an fr 33= .i .i64 0) (D:b7 lh 1=I):
  xy pE 115 Db fr lh sh 0 2 (Z4 c.cs 0 c.cs) (fun r F=>b7 r 1=I∧vG c.cs a7 F):=by
 obtain⟨c7,N,O⟩:=hT.h7
 have hlen:=hS.s7.2
 refine kj Jq (fun k f r F=>an f 33= .i .i64 (k:Int)∧b7 r 1=I∧vG c.cs a7 F∧Z4 c.cs 0 c.cs=Z4 c.cs k (c.cs.drop k)) c.cs.length ⟨Es,D,Y,rfl⟩ ?_ ?_
 ·rintro k f r _ hk H ⟨K,D,⟨kn,rfl,U⟩,hr⟩
  have iX:(k:Int)<c.cs.length:=by omega
  have hw:=ji (k:=k) (by omega)
  rw[List.drop_eq_getElem_cons hk,Z4]at hr
  obtain⟨b,cb,rr,jg,m9,sx,hb⟩:=oE N O k hk
  obtain⟨V,W,oJ,_⟩:=YU c.cs a7 c7 N O hlen hS.s7.1 k hk kn U
  obtain⟨G,hG⟩: ∃G,(b7 r 6).g+1=G:=⟨_,rfl⟩
  have X:=aCL c.cs[k].1 [.i .i64 c.cs[k].2.op,.i .i64 c.cs[k].2.num,.s c.cs[k].2.name,b] G
  have h1:vG c.cs a7 (xW a7 (jt c.cs c.cs.length) kn):=⟨kn,rfl,U⟩
  have h2:vG c.cs a7 (xW a7 (jt c.cs c.cs.length) V):=⟨V,rfl,oJ⟩
  simp only[qB,seval,gd,j3,Db,H,Z,J,BS,K,D,iX,jg,hw,hG,X,Jp,W,aqq,h1,h2]
  clear H X W
  grind
 ·rintro f r F H ⟨K,D,h,hr⟩
  simp only[qB,seval,gd,Db,H,BS,K,D,h,Int.lt_irrefl,hr,List.drop_length,Z4]
end
section
variable(c:Ct)(a7 a8 a9 iv iy iw:T)(hT:tp c a7 a8 a9 iv iy iw)(hS:A1 c)
include hT hS
theorem aCN(I:b8)(fr:Fr)(lh:iq b8)(sh:List b8)(U:vG c.cs a7 sh)
  (V:an fr 4= .ptr .S 2 1 0) (J:an fr 12= .i .i64 (c.cs.length:Int)) (hs:an fr 65=a8) (hl:an fr 66= .i .i64 (c.ru.length:Int)) (hi:an fr 67= .i .i64 0) (D:b7 lh 1=I):
  xy pE 115 C9 fr lh sh 4 2 (Tw c.cs c.ru) (fun F r=>b7 F 1=I∧vG c.cs a7 r):=by
 obtain⟨c7,W,X⟩:=hT.h7
 obtain⟨c8,Y,Z⟩:=hT.h8
 have hlen:=hS.s8.2
 refine kj Jo (fun k f F r=>an f 67= .i .i64 (k:Int)∧b7 F 1=I∧vG c.cs a7 r∧Tw c.cs c.ru=Tw c.cs (c.ru.drop k)) c.ru.length ⟨hi,D,U,rfl⟩ ?_ ?_
 ·rintro k f F r hk H ⟨K,D,N,hr⟩
  have iX:(k:Int)<c.ru.length:=by omega
  have hw:=ji (k:=k) (by omega)
  rw[List.drop_eq_getElem_cons hk,Tw]at hr
  obtain⟨b,cb,rr,jg,m9,hb⟩:=L7 Y Z k hk
  obtain⟨sh2,O,Fy⟩:=IS c.cs a7 c7 W X hS.s7.2 hS.s7.1 c.ru[k].sc 4 c.ru[k].x _ hb (hS.s8.1 c.ru[k] (List.getElem_mem hk)) r N
  simp only[qB,seval,gd,j3,C9,H,V,J,hs,hl,K,D,iX,jg,hw,m9.kept1,O,ahu,Fy]
  clear H O
  grind
 ·rintro f F r H ⟨K,D,h,hr⟩
  simp only[qB,seval,gd,C9,H,hl,K,D,h,Int.lt_irrefl,hr,List.drop_length,Tw]
theorem aCO(I:b8)(fr:Fr)(lh:iq b8)(sh:List b8)(U:vG c.cs a7 sh)
  (V:an fr 4= .ptr .S 2 1 0) (J:an fr 12= .i .i64 (c.cs.length:Int)) (hs:an fr 83=a9) (hl:an fr 84= .i .i64 (c.co.length:Int)) (hi:an fr 85= .i .i64 0) (D:b7 lh 1=I):
  xy pE 115 C8 fr lh sh 6 2 (Tx c.cs c.co) (fun F r=>b7 F 1=I∧vG c.cs a7 r):=by
 obtain⟨c7,W,X⟩:=hT.h7
 obtain⟨c8,Y,Z⟩:=hT.h9
 have hlen:=hS.s9.2
 refine kj Jn (fun k f F r=>an f 85= .i .i64 (k:Int)∧b7 F 1=I∧vG c.cs a7 r∧Tx c.cs c.co=Tx c.cs (c.co.drop k)) c.co.length ⟨hi,D,U,rfl⟩ ?_ ?_
 ·rintro k f F r hk H ⟨K,D,N,hr⟩
  have iX:(k:Int)<c.co.length:=by omega
  have hw:=ji (k:=k) (by omega)
  rw[List.drop_eq_getElem_cons hk,Tx]at hr
  obtain⟨b,cb,rr,jg,m9,hb⟩:=QD Y Z k hk
  obtain⟨sh2,O,Fy⟩:=IS c.cs a7 c7 W X hS.s7.2 hS.s7.1 c.co[k].sc 1 c.co[k].x _ hb (hS.s9.1 c.co[k] (List.getElem_mem hk)) r N
  simp only[qB,seval,gd,j3,C8,H,V,J,hs,hl,K,D,iX,jg,hw,m9.kept1,O,ahu,Fy]
  clear H O
  grind
 ·rintro f F r H ⟨K,D,h,hr⟩
  simp only[qB,seval,gd,C8,H,hl,K,D,h,Int.lt_irrefl,hr,List.drop_length,Tx]
theorem aCP(I:b8)(fr:Fr)(lh:iq b8)(sh:List b8)(U:vG c.cs a7 sh)
  (V:an fr 4= .ptr .S 2 1 0) (J:an fr 12= .i .i64 (c.cs.length:Int)) (hs:an fr 101=iv) (hl:an fr 102= .i .i64 (c.cr.length:Int)) (hi:an fr 103= .i .i64 0) (D:b7 lh 1=I):
  xy pE 115 C7 fr lh sh 8 2 (Xw c.cs c.cr) (fun F r=>b7 F 1=I∧vG c.cs a7 r):=by
 obtain⟨c7,W,X⟩:=hT.h7
 obtain⟨c8,Y,Z⟩:=hT.h10
 have hlen:=hS.s10.2
 refine kj Jm (fun k f F r=>an f 103= .i .i64 (k:Int)∧b7 F 1=I∧vG c.cs a7 r∧Xw c.cs c.cr=Xw c.cs (c.cr.drop k)) c.cr.length ⟨hi,D,U,rfl⟩ ?_ ?_
 ·rintro k f F r hk H ⟨K,D,N,hr⟩
  have iX:(k:Int)<c.cr.length:=by omega
  have hw:=ji (k:=k) (by omega)
  rw[List.drop_eq_getElem_cons hk,Xw]at hr
  obtain⟨b,cb,rr,jg,m9,sx,hb⟩:=si Y Z k hk
  obtain⟨sh2,O,Fy⟩:=IS c.cs a7 c7 W X hS.s7.2 hS.s7.1 1 2 c.cr[k] _ hb (hS.s10.1 c.cr[k] (List.getElem_mem hk)) r N
  simp only[qB,seval,gd,j3,C7,H,V,J,hs,hl,K,D,iX,jg,hw,m9.kept1,O,ahu,Fy]
  clear H O
  grind
 ·rintro f F r H ⟨K,D,h,hr⟩
  simp only[qB,seval,gd,C7,H,hl,K,D,h,Int.lt_irrefl,hr,List.drop_length,Xw]
theorem Pn: ∃s,be pE 50 [.agg (jB c a7 a8 a9 iv iy iw)] []=some (.i .i64 (mK c),s):=by
 have r:=ZD c a7 a8 a9 iv iy iw hT hS
 have H:=aCM c a7 a8 a9 iv iy iw hT hS ⟨1,.cells (jB c a7 a8 a9 iv iy iw) 0 true⟩
 have I:=aCN c a7 a8 a9 iv iy iw hT hS ⟨1,.cells (jB c a7 a8 a9 iv iy iw) 0 true⟩
 have J:=aCO c a7 a8 a9 iv iy iw hT hS ⟨1,.cells (jB c a7 a8 a9 iv iy iw) 0 true⟩
 have K:=aCP c a7 a8 a9 iv iy iw hT hS ⟨1,.cells (jB c a7 a8 a9 iv iy iw) 0 true⟩
 obtain⟨⟨c7,F,Y⟩,⟨c8,V,Z⟩,⟨c9,W,j9⟩,⟨F3,D,Nn⟩,⟨Tu,N,Po⟩,⟨Mf,O,Tv⟩⟩:=hT
 have X:=akQ c.cs a7 c7 F Y hS.s7.2
 have U:vG c.cs a7 (xW a7 (jt c.cs c.cs.length) []):=⟨[],rfl,fun i t h=>by cases h⟩
 unfold jB at H I J K r ⊢
 rw[il ahi (by simp[TQ])]
 unfold mK
 simp(maxDischargeDepth:=8) only[qB,seval,j3,TQ,Jm,Jn,Jo,Jq,F.lenI,V.lenI,W.lenI,D.lenI,F.kept,F.froz1,V.froz1,W.froz1,D.froz1,N.froz1,O.froz1,r,aqm,X,ayd,U,H,I,J,K,azq,asT]
 clear H I J K r X
 grind (splits:=30)
end
section
variable(c:Ct)(a7 a8 a9 iv iy iw:T)(hT:tp c a7 a8 a9 iv iy iw)(hS:A1 c)
include hT hS
end
def xF(n:Int):Bool:=decide (-840≤n)&&decide (n≤840)
def A4(n:Int):Bool:=decide (0≤n)&&decide (n<52596000)
theorem QG(n:Int):be pE 134 [.i .i64 n] []=some (.b (xF n),[]):=by
 rw[il aeA (by simp[Ue])]
 unfold xF
 by_cases h: -840≤n <;> simp only[qA,seval,Ue,h]
theorem Pt(n:Int):be pE 135 [.i .i64 n] []=some (.b (A4 n),[]):=by
 rw[il aeB (by simp[Uf])]
 unfold A4
 by_cases h:0≤n <;> simp only[qA,seval,Uf,h]
structure Zo where
 nm:List Nat
 o:Int
 sh:List (Int×Int)
def ZZ(s:Int×Int)(c:List T):Prop:=c= [.i .i64 s.1,.i .i64 s.2]
theorem ZZ.len(s:Int×Int)(c:List T)(h:ZZ s c):c.length=2:=by rw[h];rfl
def Nx(i:Option Int):List (Int×Int)→Int
 | []=>0
 |s::r=>if(A4 s.1&&xF s.2)=false then 5 else if(match i with|some p=>decide (s.1≤p)|none=>false)=true then 8 else Nx (some s.1) r
def zZ(l:List (Int×Int))(k:Nat):Option Int:=if k=0 then none else(l[k-1]?).map (·.1)
theorem alK{l:List (Int×Int)}{k:Nat}(hk:k<l.length):Nx (zZ l k) (l.drop k)=if(A4 l[k].1&&xF l[k].2)=false then 5 else if(match zZ l k with|some p=>decide (l[k].1≤p)|none=>false)=true then 8 else Nx (zZ l (k+1)) (l.drop (k+1)):=by
 have e:zZ l (k+1)=some l[k].1:=by unfold zZ;rw[if_neg (by omega),Nat.add_sub_cancel,List.getElem?_eq_getElem hk];rfl
 rw[List.drop_eq_getElem_cons hk,e]
 conv=>lhs;unfold Nx
theorem Tf{l:List (Int×Int)}{k:Nat}(i:0<k)(hk:k-1<l.length):zZ l k=some l[k-1].1:=by
 unfold zZ;rw[if_neg (by omega),List.getElem?_eq_getElem hk];rfl
theorem uc{k:Nat}(i:0<k)(h:k<4611686018427387904):wr .i64 ((k:Int)-1)=((k-1:Nat):Int):=by rw[js (by omega)];omega
def oK(z:Zo):Int:=if ot z.nm=false then 1 else if xF z.o=false then 5 else if 16<z.sh.length then 10 else Nx none z.sh
theorem Ps{l:List (Int×Int)}{a:T}{D:List T}(H:IsSl a l.length D)(hc:iA ZZ l D){k:Nat}(hk:k<l.length): ∃r,∀kk,lY a (.i kk (k:Int)) 2=some (.vp (.i .i64 l[k].1:: .i .i64 l[k].2::r)):=by
 obtain⟨c,r,I,F⟩:=py (k:=2) ZZ.len H hc k hk
 rw[ZZ]at F
 subst F
 exact⟨r,I⟩
theorem aCQ(z:Zo)(a:T)(N:List T)(O:IsSl a z.sh.length N)(hc:iA ZZ z.sh N)(hlen:z.sh.length≤16)(fr:Fr)(lh:iq b8)(sh:List b8)
  (h1:an fr 1= .ptr .L 1 1 0) (U:an fr 18=a) (CI:an fr 19= .i .i64 (z.sh.length:Int)) (I:an fr 20= .i .i64 0) (D:b7 lh 1=⟨1,.cells [.s z.nm,.i .i64 z.o,a] 0 true⟩):
  xy pE 50 Az fr lh sh 0 2 (Nx none z.sh) (fun F J=>J=sh):=by
 refine kj TV (fun k f F J=>an f 20= .i .i64 (k:Int)∧b7 F 1=⟨1,.cells [.s z.nm,.i .i64 z.o,a] 0 true⟩∧J=sh∧Nx none z.sh=Nx (zZ z.sh k) (z.sh.drop k)) z.sh.length ⟨I,D,rfl,rfl⟩ ?_ ?_
 ·rintro k f F _ hk r ⟨H,D,rfl,hr⟩
  rw[alK hk]at hr
  have V:(k:Int)<z.sh.length:=by omega
  have W:=iN (k:=k) (by omega)
  obtain⟨rr,X⟩:=Ps O hc hk
  have Y:=kq (Pt z.sh[k].1)
  have Z:=kq (QG z.sh[k].2)
  by_cases Ml:k=0
  ·have K: ¬(0:Int)<k:=by omega
   have hp:zZ z.sh k=none:=by rw[Ml];rfl
   simp only[qB,seval,gd,Az,r,U,CI,H,D,V,X,Y,Z,K,W,US,OA]
   clear r
   grind
  ·have K:(0:Int)<k:=by omega
   have Ty:=uc (k:=k) (by omega) (by omega)
   obtain⟨r2,TF⟩:=Ps O hc (k:=k-1) (by omega)
   have hp:=Tf (l:=z.sh) (k:=k) (by omega) (by omega)
   simp only[qB,seval,gd,Az,r,h1,U,CI,H,D,V,X,Y,Z,K,W,Ty,TF,US,OA]
   clear r
   grind
 ·rintro f F _ r ⟨H,D,rfl,hr⟩
  simp only[qB,seval,gd,Az,r,CI,H,Int.lt_irrefl,hr,List.drop_length,Nx]
theorem Ep(z:Zo)(a:T)(r:List T)(D:IsSl a z.sh.length r)(hc:iA ZZ z.sh r):be pE 84 [.agg [.s z.nm,.i .i64 z.o,a]] []=some (.i .i64 (oK z),[]):=by
 rw[il aqh (by simp[c84])]
 have F:=kq (zr z.nm)
 have H:=kq (QG z.o)
 unfold oK
 by_cases hl:z.sh.length≤16
 ·have I:=aCQ z a r D hc hl
  simp only[qB,seval,c84,F,H,D.lenI,I,JX,OA]
  grind
 ·simp only[qB,seval,c84,F,H,D.lenI,JX,OA]
  grind
mutual
def Ex.al:Ex→Prop
 | .mk _ _ _ args=>args.length≤pe∧alL args
def alL:List Ex→Prop
 | []=>True
 |x::xs=>x.al∧alL xs
end
structure CtA (c:Ct):Prop where
 a7:(∀u∈c.cs,u.2.al)∧c.cs.length≤pe
 a8:(∀u∈c.ru,u.x.al)∧c.ru.length≤pe
 a9:(∀u∈c.co,u.x.al)∧c.co.length≤pe
 iv:(∀u∈c.cr,u.al)∧c.cr.length≤pe
 iy:c.li.length≤pe
 iw:c.fs.length≤pe
end Go.Proofs.YtcpceiclnbmgiaaGreat
