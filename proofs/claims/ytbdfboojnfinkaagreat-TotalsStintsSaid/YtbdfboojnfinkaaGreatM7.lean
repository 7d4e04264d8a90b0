/- Walks of functions of the program and of the reference, and their plain laws, part 7. Conditions: the theorems' own. -/
import Derived.Test.YtbdfboojnfinkaaGreatM6
import Derived.KernelRfl
set_option maxRecDepth 100000
set_option linter.unusedSimpArgs false
set_option linter.unusedVariables false
set_option maxHeartbeats 16000000
namespace Go.Proofs.YtbdfboojnfinkaaGreat
open Go Go.Ev
section
variable(c:Ct)(a7 a8 a9 iv iw iy:T)(hT:tZ c a7 a8 a9 iv iw iy)(hS:yc c)
include hT hS
theorem awL(fr:Fr)(lh:iz ib)(sh:List ib)(U:an fr 1= .ptr .L 1 1 0)(W:an fr 3= .i .i64 0)(D:a6 lh 1=⟨1,.cells (jf c a7 a8 a9 iv iw iy) 0 true⟩):
  tJ pE 112 BL fr lh sh 0 2 (Jp [] c.li) (fun E H=>a6 E 1=⟨1,.cells (jf c a7 a8 a9 iv iw iy) 0 true⟩∧H=sh):=by
 obtain⟨X,h,V⟩:=hT.h11
 have hlen:=hS.s11
 refine jD HN (fun k f E H=>an f 3= .i .i64 (k:Int)∧a6 E 1=⟨1,.cells (jf c a7 a8 a9 iv iw iy) 0 true⟩∧H=sh∧Jp [] c.li=Jp ((c.li.map Li.nm).take k) (c.li.drop k)) c.li.length ⟨W,D,rfl,rfl⟩ ?_ ?_
 ·rintro k f E _ I F ⟨J,D,rfl,K⟩
  rw[List.drop_eq_getElem_cons I,Jp]at K
  obtain⟨rr,Y⟩:=NN h V k I
  have D2:=jE (sf c.li[k].nm)
  obtain⟨me,Z,N⟩:=Wh c.li[k].me
  have w1:=jE (ri c.li[k].mo 0 599999)
  have w2:=jE (ri c.li[k].da 1 31)
  obtain⟨G,hG⟩: ∃G,(a6 E 4).g+1=G:=⟨_,rfl⟩
  have O:=awI c.li iw X h V hlen k (by omega) c.li[k].nm c a7 a8 a9 iv iy [.s c.li[k].me,.i .i64 c.li[k].mo,.i .i64 c.li[k].da] G
  have hw:=iG (k:=k) (by omega)
  have iR:(k:Int)<c.li.length:=by omega
  have pD:(c.li.map Li.nm).take (k+1)=(c.li.map Li.nm).take k++ [c.li[k].nm]:=by simp[List.take_succ_eq_append_getElem,I]
  unfold jf at D O ⊢
  simp only[qB,seval,gd,BL,HM,F,U,J,D,h.lenI,iR,Y,hG,D2,RS,O,N,atx,w1,w2,OF,hw]
  clear F O
  grind
 ·rintro f E _ F ⟨J,D,rfl,K⟩
  unfold jf at D ⊢
  simp only[qB,seval,gd,BL,F,U,J,D,h.lenI,Int.lt_irrefl,K,List.drop_length,Jp]
theorem awM(fr:Fr)(lh:iz ib)(sh:List ib)(W:an fr 1= .ptr .L 1 1 0)(X:an fr 6= .i .i64 0)(D:a6 lh 1=⟨1,.cells (jf c a7 a8 a9 iv iw iy) 0 true⟩):
  tJ pE 112 BJ fr lh sh 4 2 (QE (c.li.map Li.nm) c.fs) (fun E H=>H=sh):=by
 obtain⟨Y,I,Z⟩:=hT.h11
 obtain⟨yG,h,DO⟩:=hT.h12
 have J:=hS.s11
 have hlen:=hS.s12
 refine jD QV (fun k f E H=>an f 6= .i .i64 (k:Int)∧a6 E 1=⟨1,.cells (jf c a7 a8 a9 iv iw iy) 0 true⟩∧H=sh∧QE (c.li.map Li.nm) c.fs=QE (c.li.map Li.nm++(c.fs.map Of.nm).take k) (c.fs.drop k)) c.fs.length ⟨X,D,rfl,by simp⟩ ?_ ?_
 ·rintro k f E _ K F ⟨N,D,rfl,O⟩
  rw[List.drop_eq_getElem_cons K,QE]at O
  obtain⟨rr,iS⟩:=We h DO k K
  have D2:=jE (sf c.fs[k].nm)
  have w1:=jE (ri c.fs[k].da 1 31)
  have w2:=jE (ri c.fs[k].ct 1 c.fs[k].da)
  obtain⟨G,hG⟩: ∃G,(a6 E 7).g+1=G:=⟨_,rfl⟩
  have U:=awJ c.li iw Y I Z J c.fs[k].nm c a7 a8 a9 iv iy [.i .i64 c.fs[k].ct,.i .i64 c.fs[k].da] G
  have V:=awK c.fs iy yG h DO hlen k (by omega) c.fs[k].nm c a7 a8 a9 iv iw [.i .i64 c.fs[k].ct,.i .i64 c.fs[k].da] G
  have hw:=iG (k:=k) (by omega)
  have iR:(k:Int)<c.fs.length:=by omega
  have pD:(c.fs.map Of.nm).take (k+1)=(c.fs.map Of.nm).take k++ [c.fs[k].nm]:=by simp[List.take_succ_eq_append_getElem,K]
  unfold jf at D U V ⊢
  simp only[qB,seval,gd,BJ,HL,HK,F,W,N,D,h.lenI,iR,iS,hG,D2,RS,U,V,w1,w2,OF,hw]
  clear F U V
  grind
 ·rintro f E _ F ⟨N,D,rfl,O⟩
  unfold jf at D
  simp only[qB,seval,gd,BJ,F,W,N,D,h.lenI,Int.lt_irrefl,O,List.drop_length,QE]
theorem aaj:hZ pE 95 [.agg (jf c a7 a8 a9 iv iw iy)] []=some (.i .i64 (LF c),[]):=by
 have h:=awL c a7 a8 a9 iv iw iy hT hS
 have D:=awM c a7 a8 a9 iv iw iy hT hS
 rw[im alA (by simp[c95])]
 unfold LF
 unfold jf at h D ⊢
 simp(maxDischargeDepth:=6) only[qB,seval,c95,HN,h,D]
 grind
end
theorem awO(l:Cs)(a:T)(H:List T)(I:IsSl a l.length H)(J:kN l H)(hlen:l.length≤oh)(n:Nat)(U:n<l.length)(c:Ct)(a8 a9 iv iw iy:T)(fr:Fr)(lh:iz ib)(sh:List ib)
  (V:an fr 1= .ptr .L 1 1 0) (K:an fr 3= .i .i64 (n:Int)) (W:an fr 4= .i .i64 0) (N:a6 lh 1=⟨1,.cells (jf c a a8 a9 iv iw iy) 0 true⟩):
  tJ pE 235 Bu fr lh sh 2 2 (if l[n].1∈(l.map Prod.fst).take n then 7 else 0) (fun D E=>D=lh∧E=sh):=by
 refine jD HA (fun j f D E=>an f 4= .i .i64 (j:Int)∧D=lh∧E=sh∧l[n].1∉(l.map Prod.fst).take j) n ⟨W,rfl,rfl,by simp⟩ ?_ ?_
 ·rintro j f _ _ hj h ⟨F,rfl,rfl,O⟩
  obtain⟨b,cb,rr,X,kg,tK,hb⟩:=lW I J j (by omega)
  obtain⟨b',Y,Z,ra,_⟩:=lW I J n U
  have hw:=iG (k:=j) (by omega)
  have WW:(j:Int)<n:=by omega
  unfold jf at N
  simp only[qB,seval,gd,Bu,h,V,K,F,WW,X,ra,hw,N]
  clear h
  grind [List.mem_take_iff_getElem]
 ·rintro f _ _ h ⟨F,rfl,rfl,O⟩
  simp only[qB,seval,gd,Bu,h,K,F,Int.lt_irrefl,O]
theorem awP(l:List Ru)(a:T)(H:List T)(N:IsSl a l.length H)(O:iB WN l H)(hlen:l.length≤oh)(n:Nat)(hn:n<l.length)(c:Ct)(a7 a9 iv iw iy:T)(U:List T)(G7:Nat)(fr:Fr)(lh:iz ib)(sh:List ib)(V:an fr 1= .ptr .L 1 1 0)(I:an fr 6= .i .i64 (n:Int))(W:an fr 7= .ptr .L 7 G7 0)(X:an fr 8= .i .i64 0)(J:a6 lh 1=⟨1,.cells (jf c a7 a a9 iv iw iy) 0 true⟩)(Y:a6 lh 7=⟨G7,.cells (.i .i64 l[n].sc:: .s l[n].nm::U) 0 true⟩):
  tJ pE 235 Bs fr lh sh 6 2 (if Hh l[n]∈(l.map Hh).take n then 7 else 0) (fun D E=>D=lh∧E=sh):=by
 refine jD Hy (fun j f D E=>an f 8= .i .i64 (j:Int)∧D=lh∧E=sh∧Hh l[n]∉(l.map Hh).take j) n ⟨X,rfl,rfl,by simp⟩ ?_ ?_
 ·rintro j f _ _ hj h ⟨F,rfl,rfl,K⟩
  obtain⟨b,cb,rr,Z,kg,hb⟩:=Fc N O j (by omega)
  have hw:=iG (k:=j) (by omega)
  have WW:(j:Int)<n:=by omega
  unfold jf at J
  simp only[qB,seval,gd,Bs,h,V,I,W,F,WW,Z,hw,J,Y]
  clear h
  grind [List.mem_take_iff_getElem,Hh]
 ·rintro f _ _ h ⟨F,rfl,rfl,K⟩
  simp only[qB,seval,gd,Bs,h,I,F,Int.lt_irrefl,K]
section
variable(c:Ct)(a7 a8 a9 iv iw iy:T)(hT:tZ c a7 a8 a9 iv iw iy)(hS:yc c)
include hT hS
theorem awQ(fr:Fr)(lh:iz ib)(sh:List ib)(N:an fr 1= .ptr .L 1 1 0)(hi:an fr 3= .i .i64 0)(h:a6 lh 1=⟨1,.cells (jf c a7 a8 a9 iv iw iy) 0 true⟩):
  tJ pE 235 Bv fr lh sh 0 2 (NO [] c.cs) (fun D H=>a6 D 1=⟨1,.cells (jf c a7 a8 a9 iv iw iy) 0 true⟩∧H=sh):=by
 obtain⟨V,F,O⟩:=hT.h7
 have hlen:=hS.s7.2
 refine jD HB (fun k f D H=>an f 3= .i .i64 (k:Int)∧a6 D 1=⟨1,.cells (jf c a7 a8 a9 iv iw iy) 0 true⟩∧H=sh∧NO [] c.cs=NO ((c.cs.map Prod.fst).take k) (c.cs.drop k)) c.cs.length ⟨hi,h,rfl,rfl⟩ ?_ ?_
 ·rintro k f D _ E I ⟨J,h,rfl,K⟩
  rw[List.drop_eq_getElem_cons E,NO]at K
  obtain⟨b,cb,rr,W,X,tK,Y⟩:=lW F O k E
  have D2:=jE (sf c.cs[k].1)
  have LZ:=pY c.cs[k].2 _ Y (hS.s7.1 c.cs[k] (List.getElem_mem E)).2
  have U:=awO c.cs a7 V F O hlen k E c a8 a9 iv iw iy
  have Z:=iG (k:=k) (by omega)
  have iR:(k:Int)<c.cs.length:=by omega
  have pD:(c.cs.map Prod.fst).take (k+1)=(c.cs.map Prod.fst).take k++ [c.cs[k].1]:=by simp[List.take_succ_eq_append_getElem,E]
  unfold jf at h U ⊢
  simp only[qB,seval,gd,Bv,HA,I,N,J,h,F.lenI,iR,W,D2,RS,U,X.froz1,LZ,HX,Z]
  grind
 ·rintro f D _ I ⟨J,h,rfl,K⟩
  unfold jf at h ⊢
  simp only[qB,seval,gd,Bv,I,N,J,h,F.lenI,Int.lt_irrefl,K,List.drop_length,NO]
theorem awR(fr:Fr)(lh:iz ib)(sh:List ib)(N:an fr 1= .ptr .L 1 1 0)(hi:an fr 6= .i .i64 0)(h:a6 lh 1=⟨1,.cells (jf c a7 a8 a9 iv iw iy) 0 true⟩):
  tJ pE 235 Bt fr lh sh 4 2 (J8 [] c.ru) (fun D H=>a6 D 1=⟨1,.cells (jf c a7 a8 a9 iv iw iy) 0 true⟩∧H=sh):=by
 obtain⟨V,F,O⟩:=hT.h8
 have hlen:=hS.s8.2
 refine jD Hz (fun k f D H=>an f 6= .i .i64 (k:Int)∧a6 D 1=⟨1,.cells (jf c a7 a8 a9 iv iw iy) 0 true⟩∧H=sh∧J8 [] c.ru=J8 ((c.ru.map Hh).take k) (c.ru.drop k)) c.ru.length ⟨hi,h,rfl,rfl⟩ ?_ ?_
 ·rintro k f D _ E I ⟨J,h,rfl,K⟩
  rw[List.drop_eq_getElem_cons E,J8]at K
  obtain⟨b,cb,rr,W,X,Y⟩:=Fc F O k E
  have D2:=jE (sf c.ru[k].nm)
  have Z:=jE (ri c.ru[k].sc 1 3)
  have LZ:=pY c.ru[k].x _ Y (hS.s8.1 c.ru[k] (List.getElem_mem E)).2
  obtain⟨G,hG⟩: ∃G,(a6 D 7).g+1=G:=⟨_,rfl⟩
  have U:=awP c.ru a8 V F O hlen k E c a7 a9 iv iw iy [.i .i64 c.ru[k].x.op,.i .i64 c.ru[k].x.num,.s c.ru[k].x.name,b] G
  have hw:=iG (k:=k) (by omega)
  have iR:(k:Int)<c.ru.length:=by omega
  have pD:(c.ru.map Hh).take (k+1)=(c.ru.map Hh).take k++ [(c.ru[k].sc,c.ru[k].nm)]:=by simp[List.take_succ_eq_append_getElem,E,Hh]
  unfold jf at h U ⊢
  simp only[qB,seval,gd,Bt,Hy,I,N,J,h,F.lenI,iR,W,hG,D2,RS,Z,OF,U,X.froz1,LZ,HX,hw]
  grind [Hh]
 ·rintro f D _ I ⟨J,h,rfl,K⟩
  unfold jf at h ⊢
  simp only[qB,seval,gd,Bt,I,N,J,h,F.lenI,Int.lt_irrefl,K,List.drop_length,J8]
theorem awS(fr:Fr)(lh:iz ib)(sh:List ib)(N:an fr 1= .ptr .L 1 1 0)(hi:an fr 10= .i .i64 0)(h:a6 lh 1=⟨1,.cells (jf c a7 a8 a9 iv iw iy) 0 true⟩):
  tJ pE 235 Br fr lh sh 8 2 (Le c.co) (fun D F=>a6 D 1=⟨1,.cells (jf c a7 a8 a9 iv iw iy) 0 true⟩∧F=sh):=by
 obtain⟨c9,H,O⟩:=hT.h9
 have hlen:=hS.s9.2
 refine jD Hx (fun k f D F=>an f 10= .i .i64 (k:Int)∧a6 D 1=⟨1,.cells (jf c a7 a8 a9 iv iw iy) 0 true⟩∧F=sh∧Le c.co=Le (c.co.drop k)) c.co.length ⟨hi,h,rfl,rfl⟩ ?_ ?_
 ·rintro k f D _ I E ⟨J,h,rfl,K⟩
  rw[List.drop_eq_getElem_cons I,Le]at K
  obtain⟨b,cb,rr,U,V,W⟩:=JO H O k I
  have X:=jE (ri c.co[k].sc 1 3)
  have LZ:=pY c.co[k].x _ W (hS.s9.1 c.co[k] (List.getElem_mem I)).2
  have Y:=iG (k:=k) (by omega)
  have Z:(k:Int)<c.co.length:=by omega
  unfold jf at h ⊢
  simp only[qB,seval,gd,Br,E,N,J,h,H.lenI,Z,U,X,OF,V.froz1,LZ,HX,Y]
  clear E
  grind
 ·rintro f D _ E ⟨J,h,rfl,K⟩
  unfold jf at h ⊢
  simp only[qB,seval,gd,Br,E,N,J,h,H.lenI,Int.lt_irrefl,K,List.drop_length,Le]
theorem awT(fr:Fr)(lh:iz ib)(sh:List ib)(N:an fr 1= .ptr .L 1 1 0)(hi:an fr 12= .i .i64 0)(h:a6 lh 1=⟨1,.cells (jf c a7 a8 a9 iv iw iy) 0 true⟩):
  tJ pE 235 Bq fr lh sh 10 2 (Lf c.cr) (fun E H=>a6 E 1=⟨1,.cells (jf c a7 a8 a9 iv iw iy) 0 true⟩∧H=sh):=by
 obtain⟨Y,D,As⟩:=hT.h10
 have hlen:=hS.s10.2
 refine jD Hw (fun k f E H=>an f 12= .i .i64 (k:Int)∧a6 E 1=⟨1,.cells (jf c a7 a8 a9 iv iw iy) 0 true⟩∧H=sh∧Lf c.cr=Lf (c.cr.drop k)) c.cr.length ⟨hi,h,rfl,rfl⟩ ?_ ?_
 ·rintro k f E _ I F ⟨J,h,rfl,K⟩
  rw[List.drop_eq_getElem_cons I,Lf]at K
  obtain⟨b,Z,rr,O,U,tK,V⟩:=nJ D As k I
  have LZ:=pY c.cr[k] _ V (hS.s10.1 c.cr[k] (List.getElem_mem I)).2
  have W:=iG (k:=k) (by omega)
  have X:(k:Int)<c.cr.length:=by omega
  unfold jf at h ⊢
  simp only[qB,seval,gd,Bq,F,N,J,h,D.lenI,X,O,U.froz1,LZ,HX,W]
  clear F
  grind
 ·rintro f E _ F ⟨J,h,rfl,K⟩
  unfold jf at h ⊢
  simp only[qB,seval,gd,Bq,F,N,J,h,D.lenI,Int.lt_irrefl,K,List.drop_length,Lf]
end
section
variable(c:Ct)(a7 a8 a9 iv iw iy:T)(hT:tZ c a7 a8 a9 iv iw iy)(hS:yc c)
include hT hS
theorem Wj:hZ pE 53 [.agg (jf c a7 a8 a9 iv iw iy)] []=some (.i .i64 (mK c),[]):=by
 have F:=aaj c a7 a8 a9 iv iw iy hT hS
 have H:=awQ c a7 a8 a9 iv iw iy hT hS
 have I:=awR c a7 a8 a9 iv iw iy hT hS
 have J:=awS c a7 a8 a9 iv iw iy hT hS
 have K:=awT c a7 a8 a9 iv iw iy hT hS
 obtain⟨⟨V,N,W⟩,⟨X,O,Y⟩,⟨Z,U,j9⟩,⟨vU,h,As⟩,⟨wT,D,yF⟩,⟨yG,E,DO⟩⟩:=hT
 have w:=fun n lo hi=>jE (ri n lo hi)
 unfold jf at H I J K F ⊢
 rw[im Xb (by simp[c53])]
 unfold mK pz pI
 simp(maxDischargeDepth:=6) only[qB,seval,c53,Hw,Hx,Hz,HB,N.lenI,O.lenI,U.lenI,h.lenI,D.lenI,E.lenI,N.froz1,O.froz1,U.froz1,h.froz1,D.froz1,E.froz1,w,OF,H,I,J,K,F,aty]
 clear H I J K F w hS
 grind (splits:=40)
end
def QF(s:List Nat):Prop:=kA 1 s≠0∨kA 2 s≠0∨kA 3 s≠0
instance (s:List Nat):Decidable (QF s):=by unfold QF;infer_instance
def Qo(l:Cs):Nat→Cs→Int
 |_,[]=>0
 |k,c::r=>if QF c.1 then 7 else if(vR l k).2≠0 then(vR l k).2 else Qo l (k+1) r
def Lj(l:Cs)(scope:Int)(x:Ex)(h:Int):Int:=if(si l scope x).2=0∧(si l scope x).1≠h then 9 else(si l scope x).2
def Lk(l:Cs):List Ru→Int
 | []=>0
 |u::r=>if Lj l u.sc u.x 4≠0 then Lj l u.sc u.x 4 else Lk l r
def Ll(l:Cs):List Co→Int
 | []=>0
 |u::r=>if Lj l u.sc u.x 1≠0 then Lj l u.sc u.x 1 else Ll l r
def M0(l:Cs):List Ex→Int
 | []=>0
 |x::r=>if Lj l 1 x 2≠0 then Lj l 1 x 2 else M0 l r
def l0(c:Ct):Int:=if mK c≠0 then mK c else if Qo c.cs 0 c.cs≠0 then Qo c.cs 0 c.cs else if Lk c.cs c.ru≠0 then Lk c.cs c.ru else if Ll c.cs c.co≠0 then Ll c.cs c.co else M0 c.cs c.cr
def uQ(l:Cs)(lT:T)(sh:List ib):Prop:= ∃kn,sh=wQ lT (jo l l.length) kn∧yu l kn
def aak(s:List Nat)(j:Nat):Prop:= ∀i:Nat,i<j→kA ((i:Int)+1) s=0
theorem awU(s:List Nat)(K:List T)(G:Nat)(fr:Fr)(lh:iz ib)(sh:List ib)(N:an fr 6= .ptr .L 6 G 0)(O:an fr 7= .i .i64 1)(U:a6 lh 6=⟨G,.cells (.s s::K) 0 true⟩):
  tJ pE 115 Bo fr lh sh 2 2 (if QF s then 7 else 0) (fun H I=>H=lh∧I=sh):=by
 refine jD Ht (fun j f H I=>an f 7= .i .i64 ((j:Int)+1)∧H=lh∧I=sh∧aak s j) 3 ⟨O,rfl,rfl,fun i h=>by omega⟩ ?_ ?_
 ·rintro j f _ _ X E ⟨F,rfl,rfl,t⟩
  have D:=IW ((j:Int)+1) s
  unfold sg at D
  have J:(j:Int)+1≤3:=by omega
  have V:wr .i64 ((j:Int)+1+1)=((j+1:Nat):Int)+1:=jw (by omega)
  have Y:j=0∨j=1∨j=2:=by omega
  by_cases W:kA ((j:Int)+1) s=0 <;> simp only[qB,seval,gd,Bo,E,N,F,U,J,V,D,W,RQ] <;> clear E D <;> grind [aak,QF]
 ·rintro f _ _ E ⟨F,rfl,rfl,t⟩
  rw[show((3:Nat):Int)+1=4 from rfl]at F
  have a:=t 0 (by decide)
  have b:=t 1 (by decide)
  have c:=t 2 (by decide)
  simp only[qB,seval,gd,Bo,E,F]
  unfold QF
  grind
section
variable(l:Cs)(lT:T)(cl:List T)(hl:IsSl lT l.length cl)(l9:kN l cl)(hlen:l.length≤oh)(qW:U2 l)
include hl l9 hlen qW
theorem G1(scope h:Int)(x:Ex)(cs:List T)(I:lv x cs)(J:Qz x)(sh:List ib)(U:uQ l lT sh): ∃K,hZ pE 64 [.ptr .S 2 1 0,.i .i64 scope,.i .i64 (l.length:Int),.agg cs,.i .i64 h] sh=some (.i .i64 (Lj l scope x h),K)∧uQ l lT K:=by
 obtain⟨kn,rfl,V⟩:=U
 obtain⟨E,D,F,_⟩:=VU l lT cl hl l9 hlen l.length (Nat.le_refl _) (fun j W=>VV l lT cl hl l9 hlen qW j W) scope x cs I J.1 J.2 kn V
 have X:Qe l l.length scope x=si l scope x:=by unfold Qe si GJ;rw[List.take_length]
 rw[X]at D
 obtain⟨a,cc,rfl,H,AJ⟩:=I.cells
 rw[im ale (by simp[c64])]
 unfold Lj
 generalize si l scope x=q at*
 obtain⟨Y,Z⟩:=q
 simp only at D ⊢
 by_cases N:Z=0
 ·subst N
  by_cases O:Y=h
  ·subst O
   simp only[qA,seval,kD,c64,D,H0,H.kept1]
   exact⟨_,rfl,E,rfl,F⟩
  ·simp only[qA,seval,kD,c64,D,H0,H.kept1,O]
   exact⟨_,rfl,E,rfl,F⟩
 ·simp only[qA,seval,kD,c64,D,H0,H.kept1,N]
  exact⟨_,rfl,E,rfl,F⟩
end
section
variable(c:Ct)(a7 a8 a9 iv iw iy:T)(hT:tZ c a7 a8 a9 iv iw iy)(hS:yc c)
include hT hS
theorem awV(I:ib)(fr:Fr)(lh:iz ib)(sh:List ib)(lC:uQ c.cs a7 sh)
  (h4:an fr 4= .ptr .S 2 1 0) (J:an fr 31=a7) (A3:an fr 32= .i .i64 (c.cs.length:Int)) (CW:an fr 33= .i .i64 0) (E:a6 lh 1=I):
  tJ pE 115 Bp fr lh sh 0 2 (Qo c.cs 0 c.cs) (fun D F=>a6 D 1=I∧uQ c.cs a7 F):=by
 obtain⟨c7,U,V⟩:=hT.h7
 have hlen:=hS.s7.2
 refine jD Hu (fun k f D F=>an f 33= .i .i64 (k:Int)∧a6 D 1=I∧uQ c.cs a7 F∧Qo c.cs 0 c.cs=Qo c.cs k (c.cs.drop k)) c.cs.length ⟨CW,E,lC,rfl⟩ ?_ ?_
 ·rintro k f D _ K H ⟨N,E,⟨kn,rfl,W⟩,O⟩
  have iR:(k:Int)<c.cs.length:=by omega
  have hw:=iG (k:=k) (by omega)
  rw[List.drop_eq_getElem_cons K,Qo]at O
  obtain⟨b,cb,rr,iS,kg,tK,hb⟩:=lW U V k K
  obtain⟨X,Y,oq,_⟩:=VV c.cs a7 c7 U V hlen hS.s7.1 k K kn W
  obtain⟨G,hG⟩: ∃G,(a6 D 6).g+1=G:=⟨_,rfl⟩
  have Z:=awU c.cs[k].1 [.i .i64 c.cs[k].2.op,.i .i64 c.cs[k].2.num,.s c.cs[k].2.name,b] G
  have h1:uQ c.cs a7 (wQ a7 (jo c.cs c.cs.length) kn):=⟨kn,rfl,W⟩
  have h2:uQ c.cs a7 (wQ a7 (jo c.cs c.cs.length) X):=⟨X,rfl,oq⟩
  simp only[qB,seval,gd,kD,Bp,H,h4,J,A3,N,E,iR,iS,hw,hG,Z,Ht,Y,ald,h1,h2]
  clear H Z Y
  grind
 ·rintro f D F H ⟨N,E,h,O⟩
  simp only[qB,seval,gd,Bp,H,A3,N,E,h,Int.lt_irrefl,O,List.drop_length,Qo]
end
section
variable(c:Ct)(a7 a8 a9 iv iw iy:T)(hT:tZ c a7 a8 a9 iv iw iy)(hS:yc c)
include hT hS
theorem awW(I:ib)(fr:Fr)(lh:iz ib)(sh:List ib)(W:uQ c.cs a7 sh)
  (X:an fr 4= .ptr .S 2 1 0) (J:an fr 12= .i .i64 (c.cs.length:Int)) (hs:an fr 65=a8) (hl:an fr 66= .i .i64 (c.ru.length:Int)) (hi:an fr 67= .i .i64 0) (E:a6 lh 1=I):
  tJ pE 115 Bn fr lh sh 4 2 (Lk c.cs c.ru) (fun F D=>a6 F 1=I∧uQ c.cs a7 D):=by
 obtain⟨Y,Z,j7⟩:=hT.h7
 obtain⟨c8,i8,j8⟩:=hT.h8
 have hlen:=hS.s8.2
 refine jD Hs (fun k f F D=>an f 67= .i .i64 (k:Int)∧a6 F 1=I∧uQ c.cs a7 D∧Lk c.cs c.ru=Lk c.cs (c.ru.drop k)) c.ru.length ⟨hi,E,W,rfl⟩ ?_ ?_
 ·rintro k f F D K H ⟨N,E,tG,O⟩
  have iR:(k:Int)<c.ru.length:=by omega
  have hw:=iG (k:=k) (by omega)
  rw[List.drop_eq_getElem_cons K,Lk]at O
  obtain⟨b,cb,rr,iS,kg,hb⟩:=Fc i8 j8 k K
  obtain⟨sh2,V,U⟩:=G1 c.cs a7 Y Z j7 hS.s7.2 hS.s7.1 c.ru[k].sc 4 c.ru[k].x _ hb (hS.s8.1 c.ru[k] (List.getElem_mem K)) D tG
  simp only[qB,seval,gd,kD,Bn,H,X,J,hs,hl,N,E,iR,iS,hw,kg.kept1,V,adR,U]
  clear H V
  grind
 ·rintro f F D H ⟨N,E,h,O⟩
  simp only[qB,seval,gd,Bn,H,hl,N,E,h,Int.lt_irrefl,O,List.drop_length,Lk]
theorem awX(I:ib)(fr:Fr)(lh:iz ib)(sh:List ib)(W:uQ c.cs a7 sh)
  (X:an fr 4= .ptr .S 2 1 0) (J:an fr 12= .i .i64 (c.cs.length:Int)) (hs:an fr 83=a9) (hl:an fr 84= .i .i64 (c.co.length:Int)) (hi:an fr 85= .i .i64 0) (E:a6 lh 1=I):
  tJ pE 115 Bl fr lh sh 6 2 (Ll c.cs c.co) (fun F D=>a6 F 1=I∧uQ c.cs a7 D):=by
 obtain⟨Y,Z,j7⟩:=hT.h7
 obtain⟨c8,i8,j8⟩:=hT.h9
 have hlen:=hS.s9.2
 refine jD Hr (fun k f F D=>an f 85= .i .i64 (k:Int)∧a6 F 1=I∧uQ c.cs a7 D∧Ll c.cs c.co=Ll c.cs (c.co.drop k)) c.co.length ⟨hi,E,W,rfl⟩ ?_ ?_
 ·rintro k f F D K H ⟨N,E,tG,O⟩
  have iR:(k:Int)<c.co.length:=by omega
  have hw:=iG (k:=k) (by omega)
  rw[List.drop_eq_getElem_cons K,Ll]at O
  obtain⟨b,cb,rr,iS,kg,hb⟩:=JO i8 j8 k K
  obtain⟨sh2,V,U⟩:=G1 c.cs a7 Y Z j7 hS.s7.2 hS.s7.1 c.co[k].sc 1 c.co[k].x _ hb (hS.s9.1 c.co[k] (List.getElem_mem K)) D tG
  simp only[qB,seval,gd,kD,Bl,H,X,J,hs,hl,N,E,iR,iS,hw,kg.kept1,V,adR,U]
  clear H V
  grind
 ·rintro f F D H ⟨N,E,h,O⟩
  simp only[qB,seval,gd,Bl,H,hl,N,E,h,Int.lt_irrefl,O,List.drop_length,Ll]
theorem awY(I:ib)(fr:Fr)(lh:iz ib)(sh:List ib)(W:uQ c.cs a7 sh)
  (X:an fr 4= .ptr .S 2 1 0) (J:an fr 12= .i .i64 (c.cs.length:Int)) (hs:an fr 101=iv) (hl:an fr 102= .i .i64 (c.cr.length:Int)) (hi:an fr 103= .i .i64 0) (E:a6 lh 1=I):
  tJ pE 115 Bk fr lh sh 8 2 (M0 c.cs c.cr) (fun F D=>a6 F 1=I∧uQ c.cs a7 D):=by
 obtain⟨Y,Z,j7⟩:=hT.h7
 obtain⟨c8,i8,j8⟩:=hT.h10
 have hlen:=hS.s10.2
 refine jD Hq (fun k f F D=>an f 103= .i .i64 (k:Int)∧a6 F 1=I∧uQ c.cs a7 D∧M0 c.cs c.cr=M0 c.cs (c.cr.drop k)) c.cr.length ⟨hi,E,W,rfl⟩ ?_ ?_
 ·rintro k f F D K H ⟨N,E,tG,O⟩
  have iR:(k:Int)<c.cr.length:=by omega
  have hw:=iG (k:=k) (by omega)
  rw[List.drop_eq_getElem_cons K,M0]at O
  obtain⟨b,cb,rr,iS,kg,tK,hb⟩:=nJ i8 j8 k K
  obtain⟨sh2,V,U⟩:=G1 c.cs a7 Y Z j7 hS.s7.2 hS.s7.1 1 2 c.cr[k] _ hb (hS.s10.1 c.cr[k] (List.getElem_mem K)) D tG
  simp only[qB,seval,gd,kD,Bk,H,X,J,hs,hl,N,E,iR,iS,hw,kg.kept1,V,adR,U]
  clear H V
  grind
 ·rintro f F D H ⟨N,E,h,O⟩
  simp only[qB,seval,gd,Bk,H,hl,N,E,h,Int.lt_irrefl,O,List.drop_length,M0]
theorem MY: ∃s,hZ pE 30 [.agg (jf c a7 a8 a9 iv iw iy)] []=some (.i .i64 (l0 c),s):=by
 have Qx:=Wi c a7 a8 a9 iv iw iy hT hS
 have F:=awV c a7 a8 a9 iv iw iy hT hS ⟨1,.cells (jf c a7 a8 a9 iv iw iy) 0 true⟩
 have H:=awW c a7 a8 a9 iv iw iy hT hS ⟨1,.cells (jf c a7 a8 a9 iv iw iy) 0 true⟩
 have I:=awX c a7 a8 a9 iv iw iy hT hS ⟨1,.cells (jf c a7 a8 a9 iv iw iy) 0 true⟩
 have J:=awY c a7 a8 a9 iv iw iy hT hS ⟨1,.cells (jf c a7 a8 a9 iv iw iy) 0 true⟩
 obtain⟨⟨X,E,Y⟩,⟨Z,U,j8⟩,⟨c9,V,j9⟩,⟨vU,D,As⟩,⟨wT,K,yF⟩,⟨yG,N,DO⟩⟩:=hT
 have W:=agH c.cs a7 X E Y hS.s7.2
 have O:uQ c.cs a7 (wQ a7 (jo c.cs c.cs.length) []):=⟨[],rfl,fun i t h=>by cases h⟩
 unfold jf at F H I J Qx ⊢
 rw[im adD (by simp[c30])]
 unfold l0
 simp(maxDischargeDepth:=8) only[qB,seval,kD,c30,Hq,Hr,Hs,Hu,E.lenI,U.lenI,V.lenI,D.lenI,E.kept,E.froz1,U.froz1,V.froz1,D.froz1,K.froz1,N.froz1,Qx,ak9,W,atn,O,F,H,I,J,auP,auQ]
 clear F H I J Qx W
 grind (splits:=30)
end
theorem awZ(s:List Nat)(fr:Fr)(lh:iz ib)(sh:List ib)(K:an fr 0= .s s)(N:an fr 3= .i .i64 1):
  UC pE 18 wX fr lh sh 0 2 (¬QF s) (.b true) (fun H I=>H=lh∧I=sh):=by
 refine qt NU (by simp[iI]) (fun j f H I=>an f 3= .i .i64 ((j:Int)+1)∧H=lh∧I=sh∧aak s j) 3 ⟨N,rfl,rfl,fun i h=>by omega⟩ ?_ ?_
 ·rintro j f _ _ V E ⟨F,rfl,rfl,t⟩
  have D:=xZ ((j:Int)+1) s
  unfold sg at D
  have J:(j:Int)+1≤3:=by omega
  have O:wr .i64 ((j:Int)+1+1)=((j+1:Nat):Int)+1:=jw (by omega)
  have W:j=0∨j=1∨j=2:=by omega
  by_cases U:kA ((j:Int)+1) s=0 <;> simp only[qB,seval,gd,wX,E,K,F,J,O,D,U,vV] <;> clear E D <;> grind [aak,QF]
 ·rintro f _ _ E ⟨F,rfl,rfl,t⟩
  rw[show((3:Nat):Int)+1=4 from rfl]at F
  have a:=t 0 (by decide)
  have b:=t 1 (by decide)
  have c:=t 2 (by decide)
  simp only[qB,seval,gd,wX,E,F]
  grind [QF]
theorem Qp(s:List Nat):hZ pE 101 [.s s] []=some (.b (decide (QF s)),[]):=by
 have D:=awZ s
 rw[im aaw (by simp[QZ])]
 by_cases h:QF s <;> simp only[qB,seval,QZ,D,h]
section
variable(c:Ct)(a7 a8 a9 iv iw iy:T)(hT:tZ c a7 a8 a9 iv iw iy)(hS:yc c)
include hT hS
theorem G2(scope h:Int)(x:Ex)(cs:List T)(D:lv x cs)(E:Qz x):hZ pE 103 [.agg (jf c a7 a8 a9 iv iw iy),.i .i64 scope,.agg cs,.i .i64 h] []=some (.i .i64 (Lj c.cs scope x h),[]):=by
 obtain⟨H,F,I⟩:=hT.h7
 have J:=C5 c.cs a7 H F I hS.s7.2 hS.s7.1 scope x cs D E.1 E.2
 obtain⟨a,N,rfl,K,AJ⟩:=D.cells
 rw[im RV (by simp[Q0])]
 unfold Lj jf
 simp only[qB,seval,Q0,J,L3,K.froz1,F.froz]
 grind
theorem aw0(fr:Fr)(lh:iz ib)(sh:List ib)(X:an fr 1= .ptr .L 1 1 0)(hi:an fr 4= .i .i64 0)(h:a6 lh 1=⟨1,.cells (jf c a7 a8 a9 iv iw iy) 0 true⟩):
  tJ pE 114 BC fr lh sh 0 2 (Qo c.cs 0 c.cs) (fun E I=>a6 E 1=⟨1,.cells (jf c a7 a8 a9 iv iw iy) 0 true⟩∧I=sh):=by
 obtain⟨J,K,Y⟩:=hT.h7
 have hlen:=hS.s7.2
 have qW:=hS.s7.1
 refine jD HH (fun k f E I=>an f 4= .i .i64 (k:Int)∧a6 E 1=⟨1,.cells (jf c a7 a8 a9 iv iw iy) 0 true⟩∧I=sh∧Qo c.cs 0 c.cs=Qo c.cs k (c.cs.drop k)) c.cs.length ⟨hi,h,rfl,rfl⟩ ?_ ?_
 ·rintro k f E _ D H ⟨N,h,rfl,O⟩
  have Z:(k:Int)<c.cs.length:=by omega
  have U:k≤c.cs.length:=Nat.le_of_lt D
  have hw:=iG (k:=k) (by omega)
  rw[List.drop_eq_getElem_cons D,Qo]at O
  obtain⟨b,cb,rr,iS,kg,tK,hb⟩:=lW K Y k D
  obtain⟨NB,Ke⟩:=qW c.cs[k] (List.getElem_mem D)
  have ph:=Qp c.cs[k].1
  obtain⟨ex,rfl,tG,V,Qc⟩:=NM c.cs a7 J D K Y
  have F:(c.cs.take k).length=k:=by rw[List.length_take,Nat.min_eq_left U]
  have W:=C5 (c.cs.take k) (.sl (List.take (k*5) J) k (ex&&decide (k=c.cs.length))) (J.take (k*5)) (by rw[F];exact tG) V (by rw[F];omega) (JN c.cs qW k) 0 c.cs[k].2 _ hb NB Ke
  rw[Df c.cs U,←GI c.cs D]at W
  unfold jf at h ⊢
  by_cases hs:QF c.cs[k].1 <;> simp only[qB,seval,gd,wC,iY,iC,BC,H,X,N,h,Z,iS,kg.froz1,ph,hs,alF,hw,U,Qc,Nat.sub_zero,W,L3,RU] <;> clear H W <;> grind
 ·rintro f E _ H ⟨N,h,rfl,O⟩
  unfold jf at h ⊢
  simp only[qB,seval,gd,BC,H,X,N,h,K.lenI,Int.lt_irrefl,O,List.drop_length,Qo]
theorem aw1(fr:Fr)(lh:iz ib)(sh:List ib)(X:an fr 1= .ptr .L 1 1 0)(hi:an fr 7= .i .i64 0)(h:a6 lh 1=⟨1,.cells (jf c a7 a8 a9 iv iw iy) 0 true⟩):
  tJ pE 114 BB fr lh sh 2 2 (Lk c.cs c.ru) (fun D H=>a6 D 1=⟨1,.cells (jf c a7 a8 a9 iv iw iy) 0 true⟩∧H=sh):=by
 have I:=hT
 obtain⟨⟨c7,Y,j7⟩,⟨c8,F,Z⟩,⟨c9,i9,j9⟩,⟨vU,J,As⟩,⟨wT,K,yF⟩,⟨yG,N,DO⟩⟩:=hT
 have hlen:=hS.s8.2
 refine jD HG (fun k f D H=>an f 7= .i .i64 (k:Int)∧a6 D 1=⟨1,.cells (jf c a7 a8 a9 iv iw iy) 0 true⟩∧H=sh∧Lk c.cs c.ru=Lk c.cs (c.ru.drop k)) c.ru.length ⟨hi,h,rfl,rfl⟩ ?_ ?_
 ·rintro k f D _ O U ⟨V,h,rfl,W⟩
  have iR:(k:Int)<c.ru.length:=by omega
  have hw:=iG (k:=k) (by omega)
  rw[List.drop_eq_getElem_cons O,Lk]at W
  obtain⟨b,cb,rr,iS,kg,hb⟩:=Fc F Z k O
  have E:=G2 c a7 a8 a9 iv iw iy I hS c.ru[k].sc 4 c.ru[k].x _ hb (hS.s8.1 c.ru[k] (List.getElem_mem O))
  unfold jf at h E ⊢
  simp only[qB,seval,gd,iY,iC,BB,U,X,V,h,F.lenI,iR,iS,kg.froz1,Y.froz1,F.froz1,i9.froz1,J.froz1,K.froz1,N.froz1,E,RW,RX,hw]
  grind
 ·rintro f D _ U ⟨V,h,rfl,W⟩
  unfold jf at h ⊢
  simp only[qB,seval,gd,BB,U,X,V,h,F.lenI,Int.lt_irrefl,W,List.drop_length,Lk]
theorem aw2(fr:Fr)(lh:iz ib)(sh:List ib)(X:an fr 1= .ptr .L 1 1 0)(hi:an fr 9= .i .i64 0)(h:a6 lh 1=⟨1,.cells (jf c a7 a8 a9 iv iw iy) 0 true⟩):
  tJ pE 114 BA fr lh sh 4 2 (Ll c.cs c.co) (fun D H=>a6 D 1=⟨1,.cells (jf c a7 a8 a9 iv iw iy) 0 true⟩∧H=sh):=by
 have I:=hT
 obtain⟨⟨c7,Y,j7⟩,⟨c8,Z,j8⟩,⟨c9,F,j9⟩,⟨vU,J,As⟩,⟨wT,K,yF⟩,⟨yG,N,DO⟩⟩:=hT
 have hlen:=hS.s9.2
 refine jD HF (fun k f D H=>an f 9= .i .i64 (k:Int)∧a6 D 1=⟨1,.cells (jf c a7 a8 a9 iv iw iy) 0 true⟩∧H=sh∧Ll c.cs c.co=Ll c.cs (c.co.drop k)) c.co.length ⟨hi,h,rfl,rfl⟩ ?_ ?_
 ·rintro k f D _ O U ⟨V,h,rfl,W⟩
  have iR:(k:Int)<c.co.length:=by omega
  have hw:=iG (k:=k) (by omega)
  rw[List.drop_eq_getElem_cons O,Ll]at W
  obtain⟨b,cb,rr,iS,kg,hb⟩:=JO F j9 k O
  have E:=G2 c a7 a8 a9 iv iw iy I hS c.co[k].sc 1 c.co[k].x _ hb (hS.s9.1 c.co[k] (List.getElem_mem O))
  unfold jf at h E ⊢
  simp only[qB,seval,gd,iY,iC,BA,U,X,V,h,F.lenI,iR,iS,kg.froz1,Y.froz1,Z.froz1,F.froz1,J.froz1,K.froz1,N.froz1,E,RW,RX,hw]
  grind
 ·rintro f D _ U ⟨V,h,rfl,W⟩
  unfold jf at h ⊢
  simp only[qB,seval,gd,BA,U,X,V,h,F.lenI,Int.lt_irrefl,W,List.drop_length,Ll]
theorem aw3(fr:Fr)(lh:iz ib)(sh:List ib)(W:an fr 1= .ptr .L 1 1 0)(hi:an fr 11= .i .i64 0)(D:a6 lh 1=⟨1,.cells (jf c a7 a8 a9 iv iw iy) 0 true⟩):
  tJ pE 114 Bz fr lh sh 6 2 (M0 c.cs c.cr) (fun E H=>a6 E 1=⟨1,.cells (jf c a7 a8 a9 iv iw iy) 0 true⟩∧H=sh):=by
 have I:=hT
 obtain⟨⟨c7,X,j7⟩,⟨c8,Y,j8⟩,⟨c9,Z,j9⟩,⟨vU,h,As⟩,⟨wT,J,yF⟩,⟨yG,K,DO⟩⟩:=hT
 have hlen:=hS.s10.2
 refine jD HE (fun k f E H=>an f 11= .i .i64 (k:Int)∧a6 E 1=⟨1,.cells (jf c a7 a8 a9 iv iw iy) 0 true⟩∧H=sh∧M0 c.cs c.cr=M0 c.cs (c.cr.drop k)) c.cr.length ⟨hi,D,rfl,rfl⟩ ?_ ?_
 ·rintro k f E _ N O ⟨U,D,rfl,V⟩
  have iR:(k:Int)<c.cr.length:=by omega
  have hw:=iG (k:=k) (by omega)
  rw[List.drop_eq_getElem_cons N,M0]at V
  obtain⟨b,cb,rr,iS,kg,tK,hb⟩:=nJ h As k N
  have F:=G2 c a7 a8 a9 iv iw iy I hS 1 2 c.cr[k] _ hb (hS.s10.1 c.cr[k] (List.getElem_mem N))
  unfold jf at D F ⊢
  simp only[qB,seval,gd,iY,iC,Bz,O,W,U,D,h.lenI,iR,iS,kg.froz1,X.froz1,Y.froz1,Z.froz1,h.froz1,J.froz1,K.froz1,F,RW,RX,hw]
  grind
 ·rintro f E _ O ⟨U,D,rfl,V⟩
  unfold jf at D ⊢
  simp only[qB,seval,gd,Bz,O,W,U,D,h.lenI,Int.lt_irrefl,V,List.drop_length,M0]
theorem PJ:hZ pE 55 [.agg (jf c a7 a8 a9 iv iw iy)] []=some (.i .i64 (l0 c),[]):=by
 have Qx:=Wj c a7 a8 a9 iv iw iy hT hS
 have F:=aw0 c a7 a8 a9 iv iw iy hT hS
 have H:=aw1 c a7 a8 a9 iv iw iy hT hS
 have I:=aw2 c a7 a8 a9 iv iw iy hT hS
 have J:=aw3 c a7 a8 a9 iv iw iy hT hS
 obtain⟨⟨U,K,V⟩,⟨W,N,X⟩,⟨Y,O,Z⟩,⟨vU,h,As⟩,⟨wT,D,yF⟩,⟨yG,E,DO⟩⟩:=hT
 unfold jf at F H I J Qx ⊢
 rw[im adO (by simp[c55])]
 unfold l0
 simp(maxDischargeDepth:=8) only[qB,seval,c55,HE,HF,HG,HH,K.froz1,N.froz1,O.froz1,h.froz1,D.froz1,E.froz1,Qx,ak2,F,H,I,J]
 grind
end
def uF(n:Int):Bool:=decide (-840≤n)&&decide (n≤840)
def sq(n:Int):Bool:=decide (0≤n)&&decide (n<52596000)
theorem NP(n:Int):hZ pE 105 [.i .i64 n] []=some (.b (uF n),[]):=by
 rw[im aay (by simp[Q1])]
 unfold uF
 by_cases h: -840≤n <;> simp only[qA,seval,Q1,h]
theorem NQ(n:Int):hZ pE 150 [.i .i64 n] []=some (.b (uF n),[]):=by
 rw[im aa7 (by simp[Rm])]
 unfold uF
 by_cases h: -840≤n <;> simp only[qA,seval,Rm,h]
theorem M8(n:Int):hZ pE 106 [.i .i64 n] []=some (.b (sq n),[]):=by
 rw[im aaz (by simp[Q2])]
 unfold sq
 by_cases h:0≤n <;> simp only[qA,seval,Q2,h]
theorem M9(n:Int):hZ pE 151 [.i .i64 n] []=some (.b (sq n),[]):=by
 rw[im aa8 (by simp[Rn])]
 unfold sq
 by_cases h:0≤n <;> simp only[qA,seval,Rn,h]
structure Zo where
 nm:List Nat
 o:Int
 sh:List (Int×Int)
def QA(s:Int×Int)(c:List T):Prop:=c= [.i .i64 s.1,.i .i64 s.2]
theorem QA.len(s:Int×Int)(c:List T)(h:QA s c):c.length=2:=by rw[h];rfl
def DR(h:Option Int):List (Int×Int)→Int
 | []=>0
 |s::r=>if(sq s.1&&uF s.2)=false then 5 else if(match h with|some p=>decide (s.1≤p)|none=>false)=true then 8 else DR (some s.1) r
def uR(l:List (Int×Int))(k:Nat):Option Int:=if k=0 then none else(l[k-1]?).map (·.1)
theorem Wk{l:List (Int×Int)}{k:Nat}(h:k<l.length):DR (uR l k) (l.drop k)=if(sq l[k].1&&uF l[k].2)=false then 5 else if(match uR l k with|some p=>decide (l[k].1≤p)|none=>false)=true then 8 else DR (uR l (k+1)) (l.drop (k+1)):=by
 have e:uR l (k+1)=some l[k].1:=by unfold uR;rw[if_neg (by omega),Nat.add_sub_cancel,List.getElem?_eq_getElem h];rfl
 rw[List.drop_eq_getElem_cons h,e]
 conv=>lhs;unfold DR
theorem Fg{l:List (Int×Int)}{k:Nat}(D:0<k)(h:k-1<l.length):uR l k=some l[k-1].1:=by
 unfold uR;rw[if_neg (by omega),List.getElem?_eq_getElem h];rfl
theorem pQ{k:Nat}(D:0<k)(h:k<4611686018427387904):wr .i64 ((k:Int)-1)=((k-1:Nat):Int):=by rw[jw (by omega)];omega
def nh(z:Zo):Int:=if ou z.nm=false then 1 else if uF z.o=false then 5 else if 16<z.sh.length then 10 else DR none z.sh
theorem CS{l:List (Int×Int)}{a:T}{h:List T}(E:IsSl a l.length h)(F:iB QA l h){k:Nat}(H:k<l.length): ∃r,∀kk,pv a (.i kk (k:Int)) 2=some (.vp (.i .i64 l[k].1:: .i .i64 l[k].2::r)):=by
 obtain⟨c,r,I,D⟩:=oa (k:=2) QA.len E F k H
 rw[QA]at D
 subst D
 exact⟨r,I⟩
theorem aw4(z:Zo)(a:T)(O:List T)(U:IsSl a z.sh.length O)(V:iB QA z.sh O)(hlen:z.sh.length≤16)(fr:Fr)(lh:iz ib)(sh:List ib)
  (h1:an fr 1= .ptr .L 1 1 0) (W:an fr 18=a) (h:an fr 19= .i .i64 (z.sh.length:Int)) (I:an fr 20= .i .i64 0) (E:a6 lh 1=⟨1,.cells [.s z.nm,.i .i64 z.o,a] 0 true⟩):
  tJ pE 50 yS fr lh sh 0 2 (DR none z.sh) (fun F J=>J=sh):=by
 refine jD QR (fun k f F J=>an f 20= .i .i64 (k:Int)∧a6 F 1=⟨1,.cells [.s z.nm,.i .i64 z.o,a] 0 true⟩∧J=sh∧DR none z.sh=DR (uR z.sh k) (z.sh.drop k)) z.sh.length ⟨I,E,rfl,rfl⟩ ?_ ?_
 ·rintro k f F _ X D ⟨H,E,rfl,K⟩
  rw[Wk X]at K
  have Y:(k:Int)<z.sh.length:=by omega
  have Z:=iM (k:=k) (by omega)
  obtain⟨rr,iS⟩:=CS U V X
  have i1:=jE (M8 z.sh[k].1)
  have i2:=jE (NP z.sh[k].2)
  by_cases DV:k=0
  ·have N: ¬(0:Int)<k:=by omega
   have hp:uR z.sh k=none:=by rw[DV];rfl
   simp only[qB,seval,gd,yS,D,W,h,H,E,Y,iS,i1,i2,N,Z,RY,L4]
   clear D
   grind
  ·have N:(0:Int)<k:=by omega
   have DQ:=pQ (k:=k) (by omega) (by omega)
   obtain⟨r2,Hg⟩:=CS U V (k:=k-1) (by omega)
   have hp:=Fg (l:=z.sh) (k:=k) (by omega) (by omega)
   simp only[qB,seval,gd,yS,D,h1,W,h,H,E,Y,iS,i1,i2,N,Z,DQ,Hg,RY,L4]
   clear D
   grind
 ·rintro f F _ D ⟨H,E,rfl,K⟩
  simp only[qB,seval,gd,yS,D,h,H,Int.lt_irrefl,K,List.drop_length,DR]
theorem CT(z:Zo)(a:T)(h:List T)(D:IsSl a z.sh.length h)(H:iB QA z.sh h):hZ pE 56 [.agg [.s z.nm,.i .i64 z.o,a]] []=some (.i .i64 (nh z),[]):=by
 rw[im ak4 (by simp[c56])]
 have E:=jE (xU z.nm)
 have F:=jE (NP z.o)
 unfold nh
 by_cases hl:z.sh.length≤16
 ·have I:=aw4 z a h D H hl
  simp only[qB,seval,c56,E,F,D.lenI,I,HY,L4]
  grind
 ·simp only[qB,seval,c56,E,F,D.lenI,HY,L4]
  grind
theorem aw5(z:Zo)(a:T)(U:List T)(E:IsSl a z.sh.length U)(V:iB QA z.sh U)(hlen:z.sh.length≤16)(fr:Fr)(lh:iz ib)(sh:List ib)
  (I:an fr 1= .ptr .L 1 1 0) (J:an fr 3= .i .i64 0) (h:a6 lh 1=⟨1,.cells [.s z.nm,.i .i64 z.o,a] 0 true⟩):
  tJ pE 59 yV fr lh sh 0 2 (DR none z.sh) (fun F K=>K=sh):=by
 refine jD QW (fun k f F K=>an f 3= .i .i64 (k:Int)∧a6 F 1=⟨1,.cells [.s z.nm,.i .i64 z.o,a] 0 true⟩∧K=sh∧DR none z.sh=DR (uR z.sh k) (z.sh.drop k)) z.sh.length ⟨J,h,rfl,rfl⟩ ?_ ?_
 ·rintro k f F _ W D ⟨H,h,rfl,N⟩
  rw[Wk W]at N
  have X:(k:Int)<z.sh.length:=by omega
  have Y:=iM (k:=k) (by omega)
  obtain⟨rr,Z⟩:=CS E V W
  have i1:=jE (M9 z.sh[k].1)
  have i2:=jE (NQ z.sh[k].2)
  by_cases DV:k=0
  ·have O: ¬(0:Int)<k:=by omega
   have hp:uR z.sh k=none:=by rw[DV];rfl
   simp only[qB,seval,gd,yV,D,I,E.lenI,H,h,X,Z,i1,i2,O,Y,Sf,Ma]
   clear D
   grind
  ·have O:(0:Int)<k:=by omega
   have DQ:=pQ (k:=k) (by omega) (by omega)
   obtain⟨r2,Hg⟩:=CS E V (k:=k-1) (by omega)
   have hp:=Fg (l:=z.sh) (k:=k) (by omega) (by omega)
   simp only[qB,seval,gd,yV,D,I,E.lenI,H,h,X,Z,i1,i2,O,Y,DQ,Hg,Sf,Ma]
   clear D
   grind
 ·rintro f F _ D ⟨H,h,rfl,N⟩
  simp only[qB,seval,gd,yV,D,I,E.lenI,H,h,Int.lt_irrefl,N,List.drop_length,DR]
theorem CU(z:Zo)(a:T)(h:List T)(D:IsSl a z.sh.length h)(H:iB QA z.sh h):hZ pE 96 [.agg [.s z.nm,.i .i64 z.o,a]] []=some (.i .i64 (nh z),[]):=by
 rw[im alB (by simp[c96])]
 have E:=jE (xT z.nm)
 have F:=jE (NQ z.o)
 unfold nh
 by_cases hl:z.sh.length≤16
 ·have I:=aw5 z a h D H hl
  simp only[qB,seval,c96,E,F,D.lenI,I,Ec,Ma]
  grind
 ·simp only[qB,seval,c96,E,F,D.lenI,Ec,Ma]
  grind
mutual
def Ex.al:Ex→Prop
 | .mk _ _ _ args=>args.length≤mJ∧alL args
def alL:List Ex→Prop
 | []=>True
 |x::xs=>x.al∧alL xs
end
structure CtA (c:Ct):Prop where
 a7:(∀u∈c.cs,u.2.al)∧c.cs.length≤mJ
 a8:(∀u∈c.ru,u.x.al)∧c.ru.length≤mJ
 a9:(∀u∈c.co,u.x.al)∧c.co.length≤mJ
 iv:(∀u∈c.cr,u.al)∧c.cr.length≤mJ
 iw:c.li.length≤mJ
 iy:c.fs.length≤mJ
def Hi(c:Nat):Prop:=(65:Int)≤c∧(c:Int)≤90
instance (c:Nat):Decidable (Hi c):=by unfold Hi;infer_instance
def G3(c:Nat):Bool:=decide (Hi c∨Gc c)
def JR(s:List Nat):Bool:=decide (1≤s.length)&&(decide (s.length≤8)&&s.all G3)
def DP(s:List Nat):Bool:=decide (s.length=3)&&s.all fun c=>decide (Hi c)
structure Ap where
 cd:List Nat
 zn:List Nat
structure Fl where
 nu:List Nat
 fr:List Nat
 to:List Nat
 dp:Int
 ar:Int
 ty:List Nat
 n0:Int
 n1:Int
 n2:Int
structure Tt where
 zo:List Zo
 ap:List Ap
 fl:List Fl
def Dq(z:Zo)(c:List T):Prop:= ∃a h,c= [.s z.nm,.i .i64 z.o,a]∧IsSl a z.sh.length h∧iB QA z.sh h
def La(u:Ap)(c:List T):Prop:=c= [.s u.cd,.s u.zn]
def od(f:Fl):List T:= [.s f.nu,.s f.fr,.s f.to,.i .i64 f.dp,.i .i64 f.ar,.s f.ty,.i .i64 f.n0,.i .i64 f.n1,.i .i64 f.n2]
def WO(f:Fl)(c:List T):Prop:=c=od f
theorem Dq.len(z:Zo)(c:List T)(h:Dq z c):c.length=3:=by obtain⟨a,D,rfl,_⟩:=h;rfl
theorem La.len(u:Ap)(c:List T)(h:La u c):c.length=2:=by rw[h];rfl
theorem WO.len(f:Fl)(c:List T)(h:WO f c):c.length=9:=by rw[h];rfl
theorem Jj{xs:List Zo}{a:T}{F:List T}(H:IsSl a xs.length F)(I:iB Dq xs F)(i:Nat)(hi:i<xs.length): ∃D E r,(∀kk,pv a (.i kk (i:Int)) 3=some (.vp (.s xs[i].nm:: .i .i64 xs[i].o::D::r)))∧IsSl D xs[i].sh.length E∧iB QA xs[i].sh E:=by
 obtain⟨c,r,e,h⟩:=oa (k:=3) Dq.len H I i hi
 obtain⟨D,E,rfl,J,K⟩:=h
 exact⟨D,E,r,e,J,K⟩
theorem Ji{xs:List Ap}{a:T}{D:List T}(E:IsSl a xs.length D)(F:iB La xs D)(i:Nat)(hi:i<xs.length): ∃r,∀kk,pv a (.i kk (i:Int)) 2=some (.vp (.s xs[i].cd:: .s xs[i].zn::r)):=by
 obtain⟨c,r,e,h⟩:=oa (k:=2) La.len E F i hi
 rw[La]at h
 subst h
 exact⟨r,e⟩
theorem sk{xs:List Fl}{a:T}{D:List T}(E:IsSl a xs.length D)(F:iB WO xs D)(i:Nat)(hi:i<xs.length): ∃r,∀kk,pv a (.i kk (i:Int)) 9=some (.vp (.s xs[i].nu:: .s xs[i].fr:: .s xs[i].to:: .i .i64 xs[i].dp:: .i .i64 xs[i].ar:: .s xs[i].ty:: .i .i64 xs[i].n0:: .i .i64 xs[i].n1:: .i .i64 xs[i].n2::r)):=by
 obtain⟨c,r,e,h⟩:=oa (k:=9) WO.len E F i hi
 rw[WO]at h
 subst h
 exact⟨r,e⟩
def He(seen:List (List Nat)):List Zo→Int
 | []=>0
 |z::r=>if nh z≠0 then nh z else if z.nm∈seen then 7 else He (seen++ [z.nm]) r
def Hf(h seen:List (List Nat)):List Ap→Int
 | []=>0
 |a::r=>if DP a.cd=false then 1 else if a.cd∈seen then 7 else if a.zn∉h then 6 else Hf h (seen++ [a.cd]) r
def uS(n:Int):Bool:=decide (0≤n)&&decide (n≤8)
def PI(f:Fl):Bool:=decide (2880≤f.dp)&&(decide (f.ar≤52593120)&&(decide (f.dp<f.ar)&&decide (f.ar-f.dp≤1440)))
def I5(h:List (List Nat))(f:Fl):Int:=
 if JR f.nu=false then 1 else if ou f.ty=false then 1 else if f.fr∉h then 6 else if f.to∉h then 6 else if f.fr=f.to then 14 else if PI f=false then 5 else if(uS f.n0&&(uS f.n1&&uS f.n2))=false then 5 else 0
def Qq(f g:Fl):Bool:=if f.dp≠g.dp then decide (f.dp<g.dp)else lessN f.nu g.nu
def Gi(D:List (List Nat))(h:Option Fl):List Fl→Int
 | []=>0
 |f::r=>if I5 D f≠0 then I5 D f else if(match h with|some p=> !Qq p f|none=>false)=true then 8 else Gi D (some f) r
def Tt.big(t:Tt):Prop:=16<t.zo.length∨64<t.ap.length∨200<t.fl.length
def rL(t:Tt):Int:=
 if 16<t.zo.length then 10 else if 64<t.ap.length then 10 else if 200<t.fl.length then 10 else if He [] t.zo≠0 then He [] t.zo else if Hf (t.zo.map Zo.nm) [] t.ap≠0 then Hf (t.zo.map Zo.nm) [] t.ap else Gi (t.ap.map Ap.cd) none t.fl
def QG(seen:List (List Nat)):List T:=(seen.map fun x=>(x,true)).map fun p=>sK p.1
def QH(seen:List (List Nat)):List T:=(seen.map fun x=>(x,true)).map fun p=>T.b p.2
theorem JS(seen:List (List Nat))(s:List Nat):nF (.one .str) (QG seen) (QH seen) (.s s) (.b false) false=some (.b (decide (s∈seen))):=G0 seen s
theorem Wl(seen:List (List Nat))(s:List Nat)(h:s∉seen):p6 (.one .str) (.s s) (.b true) (QG seen) (QH seen)=some (QG (seen++ [s]),QH (seen++ [s])):=Dg seen s h
theorem yy{α β:Type}(f:α→β){l:List α}{k:Nat}(h:k<l.length):(l.take (k+1)).map f=(l.take k).map f++ [f l[k]]:=by rw[List.take_succ_eq_append_getElem h,List.map_append];rfl
theorem aql(s:List Nat)(hs:s.length≤8)(fr:Fr)(lh:iz ib)(sh:List ib)(K:an fr 0= .s s)(I:an fr 14= .i .i64 (s.length:Int))(Ar:an fr 15= .i .i64 0):
  UC pE 37 wZ fr lh sh 0 2 (s.all G3=true) (.b false) (fun E F=>F=sh):=by
 refine qt NY (by simp[iI]) (fun k f E F=>an f 15= .i .i64 (k:Int)∧F=sh∧s.all G3=(s.drop k).all G3) s.length ⟨Ar,rfl,rfl⟩ ?_ ?_
 ·rintro k f E _ J h ⟨H,rfl,D⟩
  have N:(k:Int)<s.length:=by omega
  have O:=iM (k:=k) (by omega)
  have J5:=we J
  rw[List.drop_eq_getElem_cons J,List.all_cons]at D
  simp only[qB,seval,gd,wZ,h,K,I,H,N,J5,O]
  clear h J5
  unfold G3 Hi Gc at*
  grind
 ·rintro f E _ h ⟨H,rfl,D⟩
  rw[List.drop_length,List.all_nil]at D
  simp only[qB,seval,gd,wZ,h,I,H,Int.lt_irrefl,D]
theorem Wm(s:List Nat):hZ pE 107 [.s s] []=some (.b (JR s),[]):=by
 rw[im aaA (by simp[NZ])]
 unfold JR
 by_cases h:s.length≤8
 ·have D:=aql s h
  simp only[qB,seval,NZ,D]
  clear D
  grind
 ·simp only[qB,seval,NZ]
  grind
theorem yz(c:Nat):hZ pE 152 [.i .u8 c] []=some (.b (decide (Hi c)),[]):=by
 rw[im aa9 (by simp[Og])]
 by_cases h:(65:Int)≤c
 ·by_cases D:(c:Int)≤90 <;> simp only[qA,seval,Og,h,D,Hi]
 ·simp only[qA,seval,Og,h,Hi]
theorem aqm(s:List Nat)(hs:s.length≤mJ)(fr:Fr)(lh:iz ib)(sh:List ib)(I:an fr 0= .s s)(O:an fr 3= .i .i64 0):
  UC pE 30 xe fr lh sh 0 2 (s.all G3=true) (.b false) (fun E F=>F=sh):=by
 refine qt D7 (by simp[iI]) (fun k f E F=>an f 3= .i .i64 (k:Int)∧F=sh∧s.all G3=(s.drop k).all G3) s.length ⟨O,rfl,rfl⟩ ?_ ?_
 ·rintro k f E _ J h ⟨H,rfl,D⟩
  have U:(k:Int)<s.length:=by omega
  have V:=yb (k:=k) (by omega)
  have J5:=we J
  have K:=jE (yz s[k])
  have N:=jE (EB s[k])
  rw[List.drop_eq_getElem_cons J,List.all_cons]at D
  simp only[qB,seval,gd,xe,h,I,H,U,J5,V,K,N,aba,abz]
  clear h J5 K N
  unfold G3 at*
  grind
 ·rintro f E _ h ⟨H,rfl,D⟩
  rw[List.drop_length,List.all_nil]at D
  simp only[qB,seval,gd,xe,h,I,H,Int.lt_irrefl,D]
theorem Wn(s:List Nat)(hs:s.length≤mJ):hZ pE 153 [.s s] []=some (.b (JR s),[]):=by
 rw[im abb (by simp[Ro])]
 unfold JR
 have h:=aqm s hs
 simp only[qB,seval,Ro,D7,h]
 clear h
 grind
theorem aqn(s:List Nat)(hs:s.length=3)(fr:Fr)(lh:iz ib)(sh:List ib)(K:an fr 0= .s s)(I:an fr 8= .i .i64 (s.length:Int))(N:an fr 9= .i .i64 0):
  UC pE 23 BD fr lh sh 0 2 ((s.all fun c=>decide (Hi c))=true) (.b false) (fun E F=>F=sh):=by
 refine qt QS (by simp[iI]) (fun k f E F=>an f 9= .i .i64 (k:Int)∧F=sh∧(s.all fun c=>decide (Hi c))=(s.drop k).all fun c=>decide (Hi c)) s.length ⟨N,rfl,rfl⟩ ?_ ?_
 ·rintro k f E _ J h ⟨H,rfl,D⟩
  have O:(k:Int)<s.length:=by omega
  have U:=iM (k:=k) (by omega)
  have J5:=we J
  rw[List.drop_eq_getElem_cons J,List.all_cons]at D
  simp only[qB,seval,gd,BD,h,K,I,H,O,J5,U]
  clear h J5
  unfold Hi at*
  grind
 ·rintro f E _ h ⟨H,rfl,D⟩
  rw[List.drop_length,List.all_nil]at D
  simp only[qB,seval,gd,BD,h,I,H,Int.lt_irrefl,D]
theorem aal(s:List Nat):hZ pE 57 [.s s] []=some (.b (DP s),[]):=by
 rw[im ak5 (by simp[c57])]
 unfold DP
 by_cases h:s.length=3
 ·have D:=aqn s h
  rw[h]at D
  simp only[qB,seval,c57,h,D]
  clear D
  grind
 ·have E: ¬(s.length:Int)=3:=by omega
  simp only[qA,seval,c57,h,E]
theorem aam(s:List Nat):hZ pE 98 [.s s] []=some (.b (DP s),[]):=by
 rw[im alD (by simp[c98])]
 by_cases h:s.length=3
 ·obtain⟨a,b,c,rfl⟩: ∃a b c,s= [a,b,c]:=by
   match s,h with
   | [a,b,c],_=>exact⟨a,b,c,rfl⟩
  have D:=yz a
  have E:=yz b
  have F:=yz c
  have H: ∀kk,DI (.s [a,b,c]) (.i kk 0)=some (.i .u8 (a:Int)):=fun kk=>we (s:= [a,b,c]) (k:=0) (by simp) kk
  have I: ∀kk,DI (.s [a,b,c]) (.i kk 1)=some (.i .u8 (b:Int)):=fun kk=>we (s:= [a,b,c]) (k:=1) (by simp) kk
  have J: ∀kk,DI (.s [a,b,c]) (.i kk 2)=some (.i .u8 (c:Int)):=fun kk=>we (s:= [a,b,c]) (k:=2) (by simp) kk
  have e:DP [a,b,c]=(decide (Hi a)&&(decide (Hi b)&&decide (Hi c))):=by simp[DP]
  rw[e]
  cases h:decide (Hi a) <;> cases K:decide (Hi b) <;> cases N:decide (Hi c) <;> rw[h]at D <;> rw[K]at E <;> rw[N]at F <;> simp only[qA,seval,c98,H,I,J,D,E,F,aba]
 ·have O: ¬(s.length:Int)=3:=by omega
  have e:DP s=false:=by simp[DP,h]
  rw[e]
  simp only[qA,seval,c98,O]
theorem aw6(h D E:Int)(fr:Fr)(lh:iz ib)(sh:List ib)(H:an fr 62= .agg [.i .i64 h,.i .i64 D,.i .i64 E])(B9:an fr 63= .i .i64 0):
  tJ pE 73 BE fr lh sh 1 4 (if [h,D,E].all uS then 0 else 5) (fun I J=>J=sh):=by
 refine jD QT (fun k f I J=>an f 63= .i .i64 (k:Int)∧J=sh∧ [h,D,E].all uS=([h,D,E].drop k).all uS) 3 ⟨B9,rfl,rfl⟩ ?_ ?_
 ·rintro k f I _ U F ⟨K,rfl,N⟩
  have O:k=0∨k=1∨k=2:=by omega
  unfold uS at*
  rcases O with rfl|rfl|rfl <;> simp only[qB,seval,gd,XS,BE,F,H,K,Int.ofNat_zero,Int.ofNat_one] <;> clear F <;> simp at N ⊢ <;> grind
 ·rintro f I _ F ⟨K,rfl,N⟩
  simp only[qB,seval,gd,BE,F,K,Int.lt_irrefl,N]
theorem ag6(h:List (List Nat))(f:Fl):hZ pE 58 [.agg (od f),.vm (QG h) (QH h)] []=some (.i .i64 (I5 h f),[]):=by
 have D:=jE (Wm f.nu)
 have E:=jE (xU f.ty)
 have F:=JS h f.fr
 have H:=JS h f.to
 have I:=aw6 f.n0 f.n1 f.n2
 have N:= @jw (f.ar-f.dp)
 rw[im ak7 (by simp[c58])]
 unfold I5 od
 by_cases J:f.fr∈h <;> by_cases K:f.to∈h <;> simp only[qB,seval,c58,D,E,alG,HY,F,H,J,K,I]
 all_goals clear I D E F H
 all_goals try unfold PI
 all_goals grind (splits:=30)
theorem aan(f g:Fl):hZ pE 59 [.agg (od f),.agg (od g)] []=some (.b (Qq f g),[]):=by
 rw[im adP (by simp[c59])]
 unfold Qq od
 by_cases h:f.dp=g.dp <;> simp only[qA,seval,c59,h]
end Go.Proofs.YtbdfboojnfinkaaGreat
