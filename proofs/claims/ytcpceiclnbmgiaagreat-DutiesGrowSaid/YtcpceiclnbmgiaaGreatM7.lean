/- Walks of functions of the program and of the reference, and their plain laws, part 7. Conditions: the theorems' own. -/
import Derived.Test.YtcpceiclnbmgiaaGreatM6
import Derived.KernelRfl
set_option maxRecDepth 100000
set_option linter.unusedSimpArgs false
set_option linter.unusedVariables false
set_option maxHeartbeats 16000000
namespace Go.Proofs.YtcpceiclnbmgiaaGreat
open Go Go.Ev
section
variable(c:Ct)(a7 a8 a9 gX hU gZ:T)(hT:uc c a7 a8 a9 gX hU gZ)(hS:An c)
include hT hS
theorem aBg(fr:Fr)(lh:gW b8)(sh:List b8)(O:an fr 1= .ptr .L 1 1 0)(U:an fr 3= .i .i64 0)(D:b7 lh 1=⟨1,.cells (jE c a7 a8 a9 gX hU gZ) 0 true⟩):
  wH pE 112 xq fr lh sh 0 2 (PQ [] c.li) (fun F I=>b7 F 1=⟨1,.cells (jE c a7 a8 a9 gX hU gZ) 0 true⟩∧I=sh):=by
 obtain⟨Sx,r,Rn⟩:=hT.h11
 have hlen:=hS.s11
 refine jY Fo (fun k f F I=>an f 3= .i .i64 (k:Int)∧b7 F 1=⟨1,.cells (jE c a7 a8 a9 gX hU gZ) 0 true⟩∧I=sh∧PQ [] c.li=PQ ((c.li.map Li.nm).take k) (c.li.drop k)) c.li.length ⟨U,D,rfl,rfl⟩ ?_ ?_
 ·rintro k f F _ hk H ⟨J,D,rfl,hr⟩
  rw[List.drop_eq_getElem_cons hk,PQ]at hr
  obtain⟨rr,V⟩:=PO r Rn k hk
  have Fa:=j2 (qg c.li[k].nm)
  obtain⟨me,W,K⟩:=YQ c.li[k].me
  have X:=j2 (tI c.li[k].mo 0 599999)
  have Y:=j2 (tI c.li[k].da 1 31)
  obtain⟨G,Z⟩: ∃G,(b7 F 4).g+1=G:=⟨_,rfl⟩
  have N:=aBd c.li hU Sx r Rn hlen k (by omega) c.li[k].nm c a7 a8 a9 gX gZ [.s c.li[k].me,.i .i64 c.li[k].mo,.i .i64 c.li[k].da] G
  have hw:=iT (k:=k) (by omega)
  have iP:(k:Int)<c.li.length:=by omega
  have qc:(c.li.map Li.nm).take (k+1)=(c.li.map Li.nm).take k++ [c.li[k].nm]:=by simp[List.take_succ_eq_append_getElem,hk]
  unfold jE at D N ⊢
  simp only[qB,seval,gd,xq,Fk,H,O,J,D,r.lenI,iP,V,Z,Fa,Fv,N,K,apK,X,Y,Jd,hw]
  clear H N
  grind
 ·rintro f F _ H ⟨J,D,rfl,hr⟩
  unfold jE at D ⊢
  simp only[qB,seval,gd,xq,H,O,J,D,r.lenI,Int.lt_irrefl,hr,List.drop_length,PQ]
theorem aBh(fr:Fr)(lh:gW b8)(sh:List b8)(V:an fr 1= .ptr .L 1 1 0)(W:an fr 6= .i .i64 0)(D:b7 lh 1=⟨1,.cells (jE c a7 a8 a9 gX hU gZ) 0 true⟩):
  wH pE 112 xo fr lh sh 4 2 (SL (c.li.map Li.nm) c.fs) (fun F I=>I=sh):=by
 obtain⟨Sx,J,Rn⟩:=hT.h11
 obtain⟨Ze,r,Wz⟩:=hT.h12
 have K:=hS.s11
 have hlen:=hS.s12
 refine jY PX (fun k f F I=>an f 6= .i .i64 (k:Int)∧b7 F 1=⟨1,.cells (jE c a7 a8 a9 gX hU gZ) 0 true⟩∧I=sh∧SL (c.li.map Li.nm) c.fs=SL (c.li.map Li.nm++(c.fs.map Of.nm).take k) (c.fs.drop k)) c.fs.length ⟨W,D,rfl,by simp⟩ ?_ ?_
 ·rintro k f F _ hk H ⟨N,D,rfl,hr⟩
  rw[List.drop_eq_getElem_cons hk,SL]at hr
  obtain⟨rr,X⟩:=YL r Wz k hk
  have Fa:=j2 (qg c.fs[k].nm)
  have Y:=j2 (tI c.fs[k].da 1 31)
  have Z:=j2 (tI c.fs[k].ct 1 c.fs[k].da)
  obtain⟨G,hG⟩: ∃G,(b7 F 7).g+1=G:=⟨_,rfl⟩
  have O:=aBe c.li hU Sx J Rn K c.fs[k].nm c a7 a8 a9 gX gZ [.i .i64 c.fs[k].ct,.i .i64 c.fs[k].da] G
  have U:=aBf c.fs gZ Ze r Wz hlen k (by omega) c.fs[k].nm c a7 a8 a9 gX hU [.i .i64 c.fs[k].ct,.i .i64 c.fs[k].da] G
  have hw:=iT (k:=k) (by omega)
  have iP:(k:Int)<c.fs.length:=by omega
  have qc:(c.fs.map Of.nm).take (k+1)=(c.fs.map Of.nm).take k++ [c.fs[k].nm]:=by simp[List.take_succ_eq_append_getElem,hk]
  unfold jE at D O U ⊢
  simp only[qB,seval,gd,xo,Fj,Fi,H,V,N,D,r.lenI,iP,X,hG,Fa,Fv,O,U,Y,Z,Jd,hw]
  clear H O U
  grind
 ·rintro f F _ H ⟨N,D,rfl,hr⟩
  unfold jE at D
  simp only[qB,seval,gd,xo,H,V,N,D,r.lenI,Int.lt_irrefl,hr,List.drop_length,SL]
theorem ac9:be pE 132 [.agg (jE c a7 a8 a9 gX hU gZ)] []=some (.i .i64 (YN c),[]):=by
 have r:=aBg c a7 a8 a9 gX hU gZ hT hS
 have D:=aBh c a7 a8 a9 gX hU gZ hT hS
 rw[gQ adA (by simp[Tf])]
 unfold YN
 unfold jE at r D ⊢
 simp(maxDischargeDepth:=6) only[qB,seval,Tf,Fo,r,D]
 grind
end
theorem aBj(l:Cs)(a:T)(I:List T)(J:IsSl a l.length I)(hc:lS l I)(hlen:l.length≤qh)(n:Nat)(N:n<l.length)(c:Ct)(a8 a9 gX hU gZ:T)(fr:Fr)(lh:gW b8)(sh:List b8)
  (O:an fr 1= .ptr .L 1 1 0) (g3:an fr 3= .i .i64 (n:Int)) (U:an fr 4= .i .i64 0) (K:b7 lh 1=⟨1,.cells (jE c a a8 a9 gX hU gZ) 0 true⟩):
  wH pE 235 CD fr lh sh 2 2 (if l[n].1∈(l.map Prod.fst).take n then 7 else 0) (fun D F=>D=lh∧F=sh):=by
 refine jY I0 (fun j f D F=>an f 4= .i .i64 (j:Int)∧D=lh∧F=sh∧l[n].1∉(l.map Prod.fst).take j) n ⟨U,rfl,rfl,by simp⟩ ?_ ?_
 ·rintro j f _ _ hj r ⟨H,rfl,rfl,hr⟩
  obtain⟨b,cb,rr,V,mP,sL,hb⟩:=n6 J hc j (by omega)
  obtain⟨b',W,X,Y,_⟩:=n6 J hc n N
  have Z:=iT (k:=j) (by omega)
  have Zn:(j:Int)<n:=by omega
  unfold jE at K
  simp only[qB,seval,gd,CD,r,O,g3,H,Zn,V,Y,Z,K]
  clear r
  grind [List.mem_take_iff_getElem]
 ·rintro f _ _ r ⟨H,rfl,rfl,hr⟩
  simp only[qB,seval,gd,CD,r,g3,H,Int.lt_irrefl,hr]
theorem aBk(l:List Ru)(a:T)(I:List T)(N:IsSl a l.length I)(hc:hZ Sv l I)(hlen:l.length≤qh)(n:Nat)(hn:n<l.length)(c:Ct)(a7 a9 gX hU gZ:T)(O:List T)(G7:Nat)(fr:Fr)(lh:gW b8)(sh:List b8)(U:an fr 1= .ptr .L 1 1 0)(J:an fr 6= .i .i64 (n:Int))(V:an fr 7= .ptr .L 7 G7 0)(W:an fr 8= .i .i64 0)(K:b7 lh 1=⟨1,.cells (jE c a7 a a9 gX hU gZ) 0 true⟩)(X:b7 lh 7=⟨G7,.cells (.i .i64 l[n].sc:: .s l[n].nm::O) 0 true⟩):
  wH pE 235 CB fr lh sh 6 2 (if Iq l[n]∈(l.map Iq).take n then 7 else 0) (fun D F=>D=lh∧F=sh):=by
 refine jY IY (fun j f D F=>an f 8= .i .i64 (j:Int)∧D=lh∧F=sh∧Iq l[n]∉(l.map Iq).take j) n ⟨W,rfl,rfl,by simp⟩ ?_ ?_
 ·rintro j f _ _ hj r ⟨H,rfl,rfl,hr⟩
  obtain⟨b,cb,rr,Y,mP,hb⟩:=La N hc j (by omega)
  have Z:=iT (k:=j) (by omega)
  have Zn:(j:Int)<n:=by omega
  unfold jE at K
  simp only[qB,seval,gd,CB,r,U,J,V,H,Zn,Y,Z,K,X]
  clear r
  grind [List.mem_take_iff_getElem,Iq]
 ·rintro f _ _ r ⟨H,rfl,rfl,hr⟩
  simp only[qB,seval,gd,CB,r,J,H,Int.lt_irrefl,hr]
section
variable(c:Ct)(a7 a8 a9 gX hU gZ:T)(hT:uc c a7 a8 a9 gX hU gZ)(hS:An c)
include hT hS
theorem aBl(fr:Fr)(lh:gW b8)(sh:List b8)(K:an fr 1= .ptr .L 1 1 0)(hi:an fr 3= .i .i64 0)(r:b7 lh 1=⟨1,.cells (jE c a7 a8 a9 gX hU gZ) 0 true⟩):
  wH pE 235 CE fr lh sh 0 2 (Lu [] c.cs) (fun D H=>b7 D 1=⟨1,.cells (jE c a7 a8 a9 gX hU gZ) 0 true⟩∧H=sh):=by
 obtain⟨c7,F,N⟩:=hT.h7
 have hlen:=hS.s7.2
 refine jY I1 (fun k f D H=>an f 3= .i .i64 (k:Int)∧b7 D 1=⟨1,.cells (jE c a7 a8 a9 gX hU gZ) 0 true⟩∧H=sh∧Lu [] c.cs=Lu ((c.cs.map Prod.fst).take k) (c.cs.drop k)) c.cs.length ⟨hi,r,rfl,rfl⟩ ?_ ?_
 ·rintro k f D _ hk I ⟨J,r,rfl,hr⟩
  rw[List.drop_eq_getElem_cons hk,Lu]at hr
  obtain⟨b,Z,rr,U,V,sL,W⟩:=n6 F N k hk
  have Fa:=j2 (qg c.cs[k].1)
  have Nq:=vq c.cs[k].2 _ W (hS.s7.1 c.cs[k] (List.getElem_mem hk)).2
  have O:=aBj c.cs a7 c7 F N hlen k hk c a8 a9 gX hU gZ
  have X:=iT (k:=k) (by omega)
  have Y:(k:Int)<c.cs.length:=by omega
  have qc:(c.cs.map Prod.fst).take (k+1)=(c.cs.map Prod.fst).take k++ [c.cs[k].1]:=by simp[List.take_succ_eq_append_getElem,hk]
  unfold jE at r O ⊢
  simp only[qB,seval,gd,CE,I0,I,K,J,r,F.lenI,Y,U,Fa,Fv,O,V.froz1,Nq,Nw,X]
  grind
 ·rintro f D _ I ⟨J,r,rfl,hr⟩
  unfold jE at r ⊢
  simp only[qB,seval,gd,CE,I,K,J,r,F.lenI,Int.lt_irrefl,hr,List.drop_length,Lu]
theorem aBm(fr:Fr)(lh:gW b8)(sh:List b8)(K:an fr 1= .ptr .L 1 1 0)(hi:an fr 6= .i .i64 0)(r:b7 lh 1=⟨1,.cells (jE c a7 a8 a9 gX hU gZ) 0 true⟩):
  wH pE 235 CC fr lh sh 4 2 (Ih [] c.ru) (fun D H=>b7 D 1=⟨1,.cells (jE c a7 a8 a9 gX hU gZ) 0 true⟩∧H=sh):=by
 obtain⟨c8,F,N⟩:=hT.h8
 have hlen:=hS.s8.2
 refine jY IZ (fun k f D H=>an f 6= .i .i64 (k:Int)∧b7 D 1=⟨1,.cells (jE c a7 a8 a9 gX hU gZ) 0 true⟩∧H=sh∧Ih [] c.ru=Ih ((c.ru.map Iq).take k) (c.ru.drop k)) c.ru.length ⟨hi,r,rfl,rfl⟩ ?_ ?_
 ·rintro k f D _ hk I ⟨J,r,rfl,hr⟩
  rw[List.drop_eq_getElem_cons hk,Ih]at hr
  obtain⟨b,cb,rr,U,V,W⟩:=La F N k hk
  have Fa:=j2 (qg c.ru[k].nm)
  have X:=j2 (tI c.ru[k].sc 1 3)
  have Nq:=vq c.ru[k].x _ W (hS.s8.1 c.ru[k] (List.getElem_mem hk)).2
  obtain⟨G,Y⟩: ∃G,(b7 D 7).g+1=G:=⟨_,rfl⟩
  have O:=aBk c.ru a8 c8 F N hlen k hk c a7 a9 gX hU gZ [.i .i64 c.ru[k].x.op,.i .i64 c.ru[k].x.num,.s c.ru[k].x.name,b] G
  have Z:=iT (k:=k) (by omega)
  have iP:(k:Int)<c.ru.length:=by omega
  have qc:(c.ru.map Iq).take (k+1)=(c.ru.map Iq).take k++ [(c.ru[k].sc,c.ru[k].nm)]:=by simp[List.take_succ_eq_append_getElem,hk,Iq]
  unfold jE at r O ⊢
  simp only[qB,seval,gd,CC,IY,I,K,J,r,F.lenI,iP,U,Y,Fa,Fv,X,Jd,O,V.froz1,Nq,Nw,Z]
  grind [Iq]
 ·rintro f D _ I ⟨J,r,rfl,hr⟩
  unfold jE at r ⊢
  simp only[qB,seval,gd,CC,I,K,J,r,F.lenI,Int.lt_irrefl,hr,List.drop_length,Ih]
theorem aBn(fr:Fr)(lh:gW b8)(sh:List b8)(K:an fr 1= .ptr .L 1 1 0)(hi:an fr 10= .i .i64 0)(r:b7 lh 1=⟨1,.cells (jE c a7 a8 a9 gX hU gZ) 0 true⟩):
  wH pE 235 CA fr lh sh 8 2 (Kn c.co) (fun D H=>b7 D 1=⟨1,.cells (jE c a7 a8 a9 gX hU gZ) 0 true⟩∧H=sh):=by
 obtain⟨c9,I,N⟩:=hT.h9
 have hlen:=hS.s9.2
 refine jY IX (fun k f D H=>an f 10= .i .i64 (k:Int)∧b7 D 1=⟨1,.cells (jE c a7 a8 a9 gX hU gZ) 0 true⟩∧H=sh∧Kn c.co=Kn (c.co.drop k)) c.co.length ⟨hi,r,rfl,rfl⟩ ?_ ?_
 ·rintro k f D _ hk F ⟨J,r,rfl,hr⟩
  rw[List.drop_eq_getElem_cons hk,Kn]at hr
  obtain⟨b,Z,rr,O,U,V⟩:=PN I N k hk
  have W:=j2 (tI c.co[k].sc 1 3)
  have Nq:=vq c.co[k].x _ V (hS.s9.1 c.co[k] (List.getElem_mem hk)).2
  have X:=iT (k:=k) (by omega)
  have Y:(k:Int)<c.co.length:=by omega
  unfold jE at r ⊢
  simp only[qB,seval,gd,CA,F,K,J,r,I.lenI,Y,O,W,Jd,U.froz1,Nq,Nw,X]
  clear F
  grind
 ·rintro f D _ F ⟨J,r,rfl,hr⟩
  unfold jE at r ⊢
  simp only[qB,seval,gd,CA,F,K,J,r,I.lenI,Int.lt_irrefl,hr,List.drop_length,Kn]
theorem aBo(fr:Fr)(lh:gW b8)(sh:List b8)(K:an fr 1= .ptr .L 1 1 0)(hi:an fr 12= .i .i64 0)(r:b7 lh 1=⟨1,.cells (jE c a7 a8 a9 gX hU gZ) 0 true⟩):
  wH pE 235 Cz fr lh sh 10 2 (Ko c.cr) (fun F I=>b7 F 1=⟨1,.cells (jE c a7 a8 a9 gX hU gZ) 0 true⟩∧I=sh):=by
 obtain⟨Fg,D,Oy⟩:=hT.h10
 have hlen:=hS.s10.2
 refine jY IW (fun k f F I=>an f 12= .i .i64 (k:Int)∧b7 F 1=⟨1,.cells (jE c a7 a8 a9 gX hU gZ) 0 true⟩∧I=sh∧Ko c.cr=Ko (c.cr.drop k)) c.cr.length ⟨hi,r,rfl,rfl⟩ ?_ ?_
 ·rintro k f F _ hk H ⟨J,r,rfl,hr⟩
  rw[List.drop_eq_getElem_cons hk,Ko]at hr
  obtain⟨b,X,Y,N,O,Z,U⟩:=rF D Oy k hk
  have Nq:=vq c.cr[k] _ U (hS.s10.1 c.cr[k] (List.getElem_mem hk)).2
  have V:=iT (k:=k) (by omega)
  have W:(k:Int)<c.cr.length:=by omega
  unfold jE at r ⊢
  simp only[qB,seval,gd,Cz,H,K,J,r,D.lenI,W,N,O.froz1,Nq,Nw,V]
  clear H
  grind
 ·rintro f F _ H ⟨J,r,rfl,hr⟩
  unfold jE at r ⊢
  simp only[qB,seval,gd,Cz,H,K,J,r,D.lenI,Int.lt_irrefl,hr,List.drop_length,Ko]
end
section
variable(c:Ct)(a7 a8 a9 gX hU gZ:T)(hT:uc c a7 a8 a9 gX hU gZ)(hS:An c)
include hT hS
theorem Ys:be pE 80 [.agg (jE c a7 a8 a9 gX hU gZ)] []=some (.i .i64 (mE c),[]):=by
 have H:=ac9 c a7 a8 a9 gX hU gZ hT hS
 have I:=aBl c a7 a8 a9 gX hU gZ hT hS
 have J:=aBm c a7 a8 a9 gX hU gZ hT hS
 have K:=aBn c a7 a8 a9 gX hU gZ hT hS
 have N:=aBo c a7 a8 a9 gX hU gZ hT hS
 obtain⟨⟨c7,O,W⟩,⟨c8,U,X⟩,⟨c9,V,Y⟩,⟨Fg,r,Oy⟩,⟨Sx,D,Rn⟩,⟨Ze,F,Wz⟩⟩:=hT
 have w:=fun n lo hi=>j2 (tI n lo hi)
 unfold jE at I J K N H ⊢
 rw[gQ apc (by simp[c80])]
 unfold mE pK pT
 simp(maxDischargeDepth:=6) only[qB,seval,c80,IW,IX,IZ,I1,O.lenI,U.lenI,V.lenI,r.lenI,D.lenI,F.lenI,O.froz1,U.froz1,V.froz1,r.froz1,D.froz1,F.froz1,w,Jd,I,J,K,N,H,apL]
 clear I J K N H w hS
 grind (splits:=40)
end
def kn3(s:List Nat):Prop:=lI 1 s≠0∨lI 2 s≠0∨lI 3 s≠0
instance (s:List Nat):Decidable (kn3 s):=by unfold kn3;infer_instance
def Zj(l:Cs):Nat→Cs→Int
 |_,[]=>0
 |k,c::r=>if kn3 c.1 then 7 else if(vP l k).2≠0 then(vP l k).2 else Zj l (k+1) r
def Lo(l:Cs)(scope:Int)(x:Ex)(i:Int):Int:=if(Be l scope x).2=0∧(Be l scope x).1≠i then 9 else(Be l scope x).2
def Sy(l:Cs):List Ru→Int
 | []=>0
 |u::r=>if Lo l u.sc u.x 4≠0 then Lo l u.sc u.x 4 else Sy l r
def Sz(l:Cs):List Co→Int
 | []=>0
 |u::r=>if Lo l u.sc u.x 1≠0 then Lo l u.sc u.x 1 else Sz l r
def WK(l:Cs):List Ex→Int
 | []=>0
 |x::r=>if Lo l 1 x 2≠0 then Lo l 1 x 2 else WK l r
def mi(c:Ct):Int:=if mE c≠0 then mE c else if Zj c.cs 0 c.cs≠0 then Zj c.cs 0 c.cs else if Sy c.cs c.ru≠0 then Sy c.cs c.ru else if Sz c.cs c.co≠0 then Sz c.cs c.co else WK c.cs c.cr
def uQ(l:Cs)(lT:T)(sh:List b8):Prop:= ∃kn,sh=xg lT (je l l.length) kn∧yW l kn
def aul(s:List Nat)(j:Nat):Prop:= ∀i:Nat,i<j→lI ((i:Int)+1) s=0
theorem aBp(s:List Nat)(K:List T)(G:Nat)(fr:Fr)(lh:gW b8)(sh:List b8)(N:an fr 6= .ptr .L 6 G 0)(O:an fr 7= .i .i64 1)(U:b7 lh 6=⟨G,.cells (.s s::K) 0 true⟩):
  wH pE 115 Cv fr lh sh 2 2 (if kn3 s then 7 else 0) (fun F H=>F=lh∧H=sh):=by
 refine jY ID (fun j f F H=>an f 7= .i .i64 ((j:Int)+1)∧F=lh∧H=sh∧aul s j) 3 ⟨O,rfl,rfl,fun i h=>by omega⟩ ?_ ?_
 ·rintro j f _ _ X r ⟨D,rfl,rfl,t⟩
  have I:=J8 ((j:Int)+1) s
  unfold DA at I
  have J:(j:Int)+1≤3:=by omega
  have V:wr .i64 ((j:Int)+1+1)=((j+1:Nat):Int)+1:=jj (by omega)
  have hc:j=0∨j=1∨j=2:=by omega
  by_cases W:lI ((j:Int)+1) s=0 <;> simp only[qB,seval,gd,Cv,r,N,D,U,J,V,I,W,TM] <;> clear r I <;> grind [aul,kn3]
 ·rintro f _ _ r ⟨D,rfl,rfl,t⟩
  rw[show((3:Nat):Int)+1=4 from rfl]at D
  have a:=t 0 (by decide)
  have b:=t 1 (by decide)
  have c:=t 2 (by decide)
  simp only[qB,seval,gd,Cv,r,D]
  unfold kn3
  grind
section
variable(l:Cs)(lT:T)(cl:List T)(hl:IsSl lT l.length cl)(lX:lS l cl)(hlen:l.length≤qh)(vG:smC l)
include hl lX hlen vG
theorem H7(scope r:Int)(x:Ex)(cs:List T)(hx:mC x cs)(J:WQ x)(sh:List b8)(U:uQ l lT sh): ∃K,be pE 92 [.ptr .S 2 1 0,.i .i64 scope,.i .i64 (l.length:Int),.agg cs,.i .i64 r] sh=some (.i .i64 (Lo l scope x r),K)∧uQ l lT K:=by
 obtain⟨kn,rfl,V⟩:=U
 obtain⟨F,D,H,_⟩:=Yf l lT cl hl lX hlen l.length (Nat.le_refl _) (fun j W=>Yg l lT cl hl lX hlen vG j W) scope x cs hx J.1 J.2 kn V
 have X:R8 l l.length scope x=Be l scope x:=by unfold R8 Be HR;rw[List.take_length]
 rw[X]at D
 obtain⟨a,cc,rfl,I,Kb⟩:=hx.cells
 rw[gQ apt (by simp[c92])]
 unfold Lo
 generalize Be l scope x=q at*
 obtain⟨Y,Z⟩:=q
 simp only at D ⊢
 by_cases N:Z=0
 ·subst N
  by_cases O:Y=r
  ·subst O
   simp only[qA,seval,jO,c92,D,Jg,I.kept1]
   exact⟨_,rfl,F,rfl,H⟩
  ·simp only[qA,seval,jO,c92,D,Jg,I.kept1,O]
   exact⟨_,rfl,F,rfl,H⟩
 ·simp only[qA,seval,jO,c92,D,Jg,I.kept1,N]
  exact⟨_,rfl,F,rfl,H⟩
end
section
variable(c:Ct)(a7 a8 a9 gX hU gZ:T)(hT:uc c a7 a8 a9 gX hU gZ)(hS:An c)
include hT hS
theorem aBq(I:b8)(fr:Fr)(lh:gW b8)(sh:List b8)(Y:uQ c.cs a7 sh)
  (Z:an fr 4= .ptr .S 2 1 0) (J:an fr 31=a7) (Bh:an fr 32= .i .i64 (c.cs.length:Int)) (DO:an fr 33= .i .i64 0) (D:b7 lh 1=I):
  wH pE 115 Cw fr lh sh 0 2 (Zj c.cs 0 c.cs) (fun r F=>b7 r 1=I∧uQ c.cs a7 F):=by
 obtain⟨c7,N,O⟩:=hT.h7
 have hlen:=hS.s7.2
 refine jY IE (fun k f r F=>an f 33= .i .i64 (k:Int)∧b7 r 1=I∧uQ c.cs a7 F∧Zj c.cs 0 c.cs=Zj c.cs k (c.cs.drop k)) c.cs.length ⟨DO,D,Y,rfl⟩ ?_ ?_
 ·rintro k f r _ hk H ⟨K,D,⟨kn,rfl,U⟩,hr⟩
  have iP:(k:Int)<c.cs.length:=by omega
  have hw:=iT (k:=k) (by omega)
  rw[List.drop_eq_getElem_cons hk,Zj]at hr
  obtain⟨b,cb,rr,iU,mP,sL,hb⟩:=n6 N O k hk
  obtain⟨V,W,oe,_⟩:=Yg c.cs a7 c7 N O hlen hS.s7.1 k hk kn U
  obtain⟨G,hG⟩: ∃G,(b7 r 6).g+1=G:=⟨_,rfl⟩
  have X:=aBp c.cs[k].1 [.i .i64 c.cs[k].2.op,.i .i64 c.cs[k].2.num,.s c.cs[k].2.name,b] G
  have h1:uQ c.cs a7 (xg a7 (je c.cs c.cs.length) kn):=⟨kn,rfl,U⟩
  have h2:uQ c.cs a7 (xg a7 (je c.cs c.cs.length) V):=⟨V,rfl,oe⟩
  simp only[qB,seval,gd,jO,Cw,H,Z,J,Bh,K,D,iP,iU,hw,hG,X,ID,W,aps,h1,h2]
  clear H X W
  grind
 ·rintro f r F H ⟨K,D,h,hr⟩
  simp only[qB,seval,gd,Cw,H,Bh,K,D,h,Int.lt_irrefl,hr,List.drop_length,Zj]
end
section
variable(c:Ct)(a7 a8 a9 gX hU gZ:T)(hT:uc c a7 a8 a9 gX hU gZ)(hS:An c)
include hT hS
theorem aBr(I:b8)(fr:Fr)(lh:gW b8)(sh:List b8)(O:uQ c.cs a7 sh)
  (U:an fr 4= .ptr .S 2 1 0) (J:an fr 12= .i .i64 (c.cs.length:Int)) (hs:an fr 65=a8) (hl:an fr 66= .i .i64 (c.ru.length:Int)) (hi:an fr 67= .i .i64 0) (D:b7 lh 1=I):
  wH pE 115 Cu fr lh sh 4 2 (Sy c.cs c.ru) (fun F r=>b7 F 1=I∧uQ c.cs a7 r):=by
 obtain⟨c7,V,W⟩:=hT.h7
 obtain⟨c8,X,Y⟩:=hT.h8
 have hlen:=hS.s8.2
 refine jY IC (fun k f F r=>an f 67= .i .i64 (k:Int)∧b7 F 1=I∧uQ c.cs a7 r∧Sy c.cs c.ru=Sy c.cs (c.ru.drop k)) c.ru.length ⟨hi,D,O,rfl⟩ ?_ ?_
 ·rintro k f F r hk H ⟨K,D,Z,hr⟩
  have iP:(k:Int)<c.ru.length:=by omega
  have hw:=iT (k:=k) (by omega)
  rw[List.drop_eq_getElem_cons hk,Sy]at hr
  obtain⟨b,cb,rr,iU,mP,hb⟩:=La X Y k hk
  obtain⟨sh2,N,EJ⟩:=H7 c.cs a7 c7 V W hS.s7.2 hS.s7.1 c.ru[k].sc 4 c.ru[k].x _ hb (hS.s8.1 c.ru[k] (List.getElem_mem hk)) r Z
  simp only[qB,seval,gd,jO,Cu,H,U,J,hs,hl,K,D,iP,iU,hw,mP.kept1,N,agt,EJ]
  clear H N
  grind
 ·rintro f F r H ⟨K,D,h,hr⟩
  simp only[qB,seval,gd,Cu,H,hl,K,D,h,Int.lt_irrefl,hr,List.drop_length,Sy]
theorem aBs(I:b8)(fr:Fr)(lh:gW b8)(sh:List b8)(O:uQ c.cs a7 sh)
  (U:an fr 4= .ptr .S 2 1 0) (J:an fr 12= .i .i64 (c.cs.length:Int)) (hs:an fr 83=a9) (hl:an fr 84= .i .i64 (c.co.length:Int)) (hi:an fr 85= .i .i64 0) (D:b7 lh 1=I):
  wH pE 115 Cq fr lh sh 6 2 (Sz c.cs c.co) (fun F r=>b7 F 1=I∧uQ c.cs a7 r):=by
 obtain⟨c7,V,W⟩:=hT.h7
 obtain⟨c8,X,Y⟩:=hT.h9
 have hlen:=hS.s9.2
 refine jY IB (fun k f F r=>an f 85= .i .i64 (k:Int)∧b7 F 1=I∧uQ c.cs a7 r∧Sz c.cs c.co=Sz c.cs (c.co.drop k)) c.co.length ⟨hi,D,O,rfl⟩ ?_ ?_
 ·rintro k f F r hk H ⟨K,D,Z,hr⟩
  have iP:(k:Int)<c.co.length:=by omega
  have hw:=iT (k:=k) (by omega)
  rw[List.drop_eq_getElem_cons hk,Sz]at hr
  obtain⟨b,cb,rr,iU,mP,hb⟩:=PN X Y k hk
  obtain⟨sh2,N,EJ⟩:=H7 c.cs a7 c7 V W hS.s7.2 hS.s7.1 c.co[k].sc 1 c.co[k].x _ hb (hS.s9.1 c.co[k] (List.getElem_mem hk)) r Z
  simp only[qB,seval,gd,jO,Cq,H,U,J,hs,hl,K,D,iP,iU,hw,mP.kept1,N,agt,EJ]
  clear H N
  grind
 ·rintro f F r H ⟨K,D,h,hr⟩
  simp only[qB,seval,gd,Cq,H,hl,K,D,h,Int.lt_irrefl,hr,List.drop_length,Sz]
theorem aBt(I:b8)(fr:Fr)(lh:gW b8)(sh:List b8)(O:uQ c.cs a7 sh)
  (U:an fr 4= .ptr .S 2 1 0) (J:an fr 12= .i .i64 (c.cs.length:Int)) (hs:an fr 101=gX) (hl:an fr 102= .i .i64 (c.cr.length:Int)) (hi:an fr 103= .i .i64 0) (D:b7 lh 1=I):
  wH pE 115 Cp fr lh sh 8 2 (WK c.cs c.cr) (fun F r=>b7 F 1=I∧uQ c.cs a7 r):=by
 obtain⟨c7,V,W⟩:=hT.h7
 obtain⟨c8,X,Y⟩:=hT.h10
 have hlen:=hS.s10.2
 refine jY IA (fun k f F r=>an f 103= .i .i64 (k:Int)∧b7 F 1=I∧uQ c.cs a7 r∧WK c.cs c.cr=WK c.cs (c.cr.drop k)) c.cr.length ⟨hi,D,O,rfl⟩ ?_ ?_
 ·rintro k f F r hk H ⟨K,D,Z,hr⟩
  have iP:(k:Int)<c.cr.length:=by omega
  have hw:=iT (k:=k) (by omega)
  rw[List.drop_eq_getElem_cons hk,WK]at hr
  obtain⟨b,cb,rr,iU,mP,sL,hb⟩:=rF X Y k hk
  obtain⟨sh2,N,EJ⟩:=H7 c.cs a7 c7 V W hS.s7.2 hS.s7.1 1 2 c.cr[k] _ hb (hS.s10.1 c.cr[k] (List.getElem_mem hk)) r Z
  simp only[qB,seval,gd,jO,Cp,H,U,J,hs,hl,K,D,iP,iU,hw,mP.kept1,N,agt,EJ]
  clear H N
  grind
 ·rintro f F r H ⟨K,D,h,hr⟩
  simp only[qB,seval,gd,Cp,H,hl,K,D,h,Int.lt_irrefl,hr,List.drop_length,WK]
theorem Oz: ∃s,be pE 50 [.agg (jE c a7 a8 a9 gX hU gZ)] []=some (.i .i64 (mi c),s):=by
 have r:=YR c a7 a8 a9 gX hU gZ hT hS
 have H:=aBq c a7 a8 a9 gX hU gZ hT hS ⟨1,.cells (jE c a7 a8 a9 gX hU gZ) 0 true⟩
 have I:=aBr c a7 a8 a9 gX hU gZ hT hS ⟨1,.cells (jE c a7 a8 a9 gX hU gZ) 0 true⟩
 have J:=aBs c a7 a8 a9 gX hU gZ hT hS ⟨1,.cells (jE c a7 a8 a9 gX hU gZ) 0 true⟩
 have K:=aBt c a7 a8 a9 gX hU gZ hT hS ⟨1,.cells (jE c a7 a8 a9 gX hU gZ) 0 true⟩
 obtain⟨⟨c7,F,Y⟩,⟨c8,V,Z⟩,⟨c9,W,j9⟩,⟨Fg,D,Oy⟩,⟨Sx,N,Rn⟩,⟨Ze,O,Wz⟩⟩:=hT
 have X:=aj5 c.cs a7 c7 F Y hS.s7.2
 have U:uQ c.cs a7 (xg a7 (je c.cs c.cs.length) []):=⟨[],rfl,fun i t h=>by cases h⟩
 unfold jE at H I J K r ⊢
 rw[gQ agj (by simp[SR])]
 unfold mi
 simp(maxDischargeDepth:=8) only[qB,seval,jO,SR,IA,IB,IC,IE,F.lenI,V.lenI,W.lenI,D.lenI,F.kept,F.froz1,V.froz1,W.froz1,D.froz1,N.froz1,O.froz1,r,apn,X,awT,U,H,I,J,K,ax3,ahX]
 clear H I J K r X
 grind (splits:=30)
end
section
variable(c:Ct)(a7 a8 a9 gX hU gZ:T)(hT:uc c a7 a8 a9 gX hU gZ)(hS:An c)
include hT hS
end
def wN(n:Int):Bool:=decide (-840≤n)&&decide (n≤840)
def As(n:Int):Bool:=decide (0≤n)&&decide (n<52596000)
theorem PR(n:Int):be pE 134 [.i .i64 n] []=some (.b (wN n),[]):=by
 rw[gQ adC (by simp[Tg])]
 unfold wN
 by_cases h: -840≤n <;> simp only[qA,seval,Tg,h]
theorem OG(n:Int):be pE 135 [.i .i64 n] []=some (.b (As n),[]):=by
 rw[gQ adD (by simp[Th])]
 unfold As
 by_cases h:0≤n <;> simp only[qA,seval,Th,h]
structure Zo where
 nm:List Nat
 o:Int
 sh:List (Int×Int)
def Zf(s:Int×Int)(c:List T):Prop:=c= [.i .i64 s.1,.i .i64 s.2]
theorem Zf.len(s:Int×Int)(c:List T)(h:Zf s c):c.length=2:=by rw[h];rfl
def Mz(i:Option Int):List (Int×Int)→Int
 | []=>0
 |s::r=>if(As s.1&&wN s.2)=false then 5 else if(match i with|some p=>decide (s.1≤p)|none=>false)=true then 8 else Mz (some s.1) r
def ze(l:List (Int×Int))(k:Nat):Option Int:=if k=0 then none else(l[k-1]?).map (·.1)
theorem akU{l:List (Int×Int)}{k:Nat}(hk:k<l.length):Mz (ze l k) (l.drop k)=if(As l[k].1&&wN l[k].2)=false then 5 else if(match ze l k with|some p=>decide (l[k].1≤p)|none=>false)=true then 8 else Mz (ze l (k+1)) (l.drop (k+1)):=by
 have e:ze l (k+1)=some l[k].1:=by unfold ze;rw[if_neg (by omega),Nat.add_sub_cancel,List.getElem?_eq_getElem hk];rfl
 rw[List.drop_eq_getElem_cons hk,e]
 conv=>lhs;unfold Mz
theorem Sj{l:List (Int×Int)}{k:Nat}(i:0<k)(hk:k-1<l.length):ze l k=some l[k-1].1:=by
 unfold ze;rw[if_neg (by omega),List.getElem?_eq_getElem hk];rfl
theorem tB{k:Nat}(i:0<k)(h:k<4611686018427387904):wr .i64 ((k:Int)-1)=((k-1:Nat):Int):=by rw[jj (by omega)];omega
def oj(z:Zo):Int:=if nV z.nm=false then 1 else if wN z.o=false then 5 else if 16<z.sh.length then 10 else Mz none z.sh
theorem OE{l:List (Int×Int)}{a:T}{D:List T}(H:IsSl a l.length D)(hc:hZ Zf l D){k:Nat}(hk:k<l.length): ∃r,∀kk,lH a (.i kk (k:Int)) 2=some (.vp (.i .i64 l[k].1:: .i .i64 l[k].2::r)):=by
 obtain⟨c,r,I,F⟩:=oY (k:=2) Zf.len H hc k hk
 rw[Zf]at F
 subst F
 exact⟨r,I⟩
theorem aBu(z:Zo)(a:T)(O:List T)(U:IsSl a z.sh.length O)(hc:hZ Zf z.sh O)(hlen:z.sh.length≤16)(fr:Fr)(lh:gW b8)(sh:List b8)
  (h1:an fr 1= .ptr .L 1 1 0) (V:an fr 18=a) (Ij:an fr 19= .i .i64 (z.sh.length:Int)) (I:an fr 20= .i .i64 0) (D:b7 lh 1=⟨1,.cells [.s z.nm,.i .i64 z.o,a] 0 true⟩):
  wH pE 50 zM fr lh sh 0 2 (Mz none z.sh) (fun F J=>J=sh):=by
 refine jY SW (fun k f F J=>an f 20= .i .i64 (k:Int)∧b7 F 1=⟨1,.cells [.s z.nm,.i .i64 z.o,a] 0 true⟩∧J=sh∧Mz none z.sh=Mz (ze z.sh k) (z.sh.drop k)) z.sh.length ⟨I,D,rfl,rfl⟩ ?_ ?_
 ·rintro k f F _ hk r ⟨H,D,rfl,hr⟩
  rw[akU hk]at hr
  have W:(k:Int)<z.sh.length:=by omega
  have X:=iJ (k:=k) (by omega)
  obtain⟨rr,Y⟩:=OE U hc hk
  have Z:=j2 (OG z.sh[k].1)
  have i2:=j2 (PR z.sh[k].2)
  by_cases OT:k=0
  ·have K: ¬(0:Int)<k:=by omega
   have hp:ze z.sh k=none:=by rw[OT];rfl
   simp only[qB,seval,gd,zM,r,V,Ij,H,D,W,Y,Z,i2,K,X,TX,Nx]
   clear r
   grind
  ·have K:(0:Int)<k:=by omega
   have SA:=tB (k:=k) (by omega) (by omega)
   obtain⟨r2,N⟩:=OE U hc (k:=k-1) (by omega)
   have hp:=Sj (l:=z.sh) (k:=k) (by omega) (by omega)
   simp only[qB,seval,gd,zM,r,h1,V,Ij,H,D,W,Y,Z,i2,K,X,SA,N,TX,Nx]
   clear r
   grind
 ·rintro f F _ r ⟨H,D,rfl,hr⟩
  simp only[qB,seval,gd,zM,r,Ij,H,Int.lt_irrefl,hr,List.drop_length,Mz]
theorem DM(z:Zo)(a:T)(r:List T)(D:IsSl a z.sh.length r)(hc:hZ Zf z.sh r):be pE 84 [.agg [.s z.nm,.i .i64 z.o,a]] []=some (.i .i64 (oj z),[]):=by
 rw[gQ api (by simp[c84])]
 have F:=j2 (yt z.nm)
 have H:=j2 (PR z.o)
 unfold oj
 by_cases hl:z.sh.length≤16
 ·have I:=aBu z a r D hc hl
  simp only[qB,seval,c84,F,H,D.lenI,I,Je,Nx]
  grind
 ·simp only[qB,seval,c84,F,H,D.lenI,Je,Nx]
  grind
mutual
def Ex.al:Ex→Prop
 | .mk _ _ _ args=>args.length≤oK∧alL args
def alL:List Ex→Prop
 | []=>True
 |x::xs=>x.al∧alL xs
end
structure CtA (c:Ct):Prop where
 a7:(∀u∈c.cs,u.2.al)∧c.cs.length≤oK
 a8:(∀u∈c.ru,u.x.al)∧c.ru.length≤oK
 a9:(∀u∈c.co,u.x.al)∧c.co.length≤oK
 gX:(∀u∈c.cr,u.al)∧c.cr.length≤oK
 hU:c.li.length≤oK
 gZ:c.fs.length≤oK
end Go.Proofs.YtcpceiclnbmgiaaGreat
