/- Walks of functions of the program and of the reference, and their plain laws, part 8. Conditions: the theorems' own. -/
import Derived.Test.YtblcbheipjeoeaaGreatM7
import Derived.KernelRfl
set_option maxRecDepth 100000
set_option linter.unusedSimpArgs false
set_option linter.unusedVariables false
set_option maxHeartbeats 16000000
namespace Go.Proofs.YtblcbheipjeoeaaGreat
open Go Go.Ev
theorem sW(n lo hi:Int):gS pE 240 [.i .i64 n,.i .i64 lo,.i .i64 hi] []=some (.b (um n lo hi),[]):=by
 rw[gX ae4 (by simp[Uu])]
 unfold um
 by_cases h:lo≤n <;> simp only[qA,seval,Uu,h]
theorem ayW(l:List Li)(a:T)(F:List T)(J:g8 a l.length F)(K:ic LiR l F)(hlen:l.length≤oQ)(n:Nat)(hn:n≤l.length)(s:List Nat)(c:Ct)(a7 a8 a9 a10 hU:T)(N:List T)(G4:Nat)(fr:Fr)(lh:hJ gR)(sh:List gR)(O:an fr 1= .ptr .L 1 1 0)(H:an fr 3= .i .i64 (n:Int))(U:an fr 4= .ptr .L 4 G4 0)(V:an fr 5= .i .i64 0)(W:a6 lh 1=⟨1,.cells (iS c a7 a8 a9 a10 a hU) 0 true⟩)(X:a6 lh 4=⟨G4,.cells (.s s::N) 0 true⟩):
  Px pE 112 zD fr lh sh 2 2 (if s∈(l.map Li.nm).take n then 7 else 0) (fun C D=>C=lh∧D=sh):=by
 refine pq F7 (fun j f C D=>an f 5= .i .i64 (j:Int)∧C=lh∧D=sh∧s∉(l.map Li.nm).take j) n ⟨V,rfl,rfl,by simp⟩ ?_ ?_
 ·rintro j f _ _ hj r ⟨E,rfl,rfl,I⟩
  obtain⟨rr,Y⟩:=Qo J K j (by omega)
  have Z:=iD (k:=j) (by omega)
  have Se:(j:Int)<n:=by omega
  simp only[qB,seval,gd,zD,r,O,H,U,E,Se,Y,Z,W,X,iS]
  clear r
  grind [List.mem_take_iff_getElem]
 ·rintro f _ _ r ⟨E,rfl,rfl,I⟩
  simp only[qB,seval,gd,zD,r,H,E,Int.lt_irrefl,I]
theorem ayX(l:List Li)(a:T)(I:List T)(C:g8 a l.length I)(N:ic LiR l I)(hlen:l.length≤oQ)(s:List Nat)(c:Ct)(a7 a8 a9 a10 hU:T)(O:List T)(G7:Nat)(fr:Fr)(lh:hJ gR)(sh:List gR)(J:an fr 1= .ptr .L 1 1 0)(U:an fr 7= .ptr .L 7 G7 0)(V:an fr 8= .i .i64 0)(K:a6 lh 1=⟨1,.cells (iS c a7 a8 a9 a10 a hU) 0 true⟩)(W:a6 lh 7=⟨G7,.cells (.s s::O) 0 true⟩):
  Px pE 112 zB fr lh sh 6 2 (if s∈l.map Li.nm then 7 else 0) (fun D E=>D=lh∧E=sh):=by
 refine pq F6 (fun j f D E=>an f 8= .i .i64 (j:Int)∧D=lh∧E=sh∧s∉(l.map Li.nm).take j) l.length ⟨V,rfl,rfl,by simp⟩ ?_ ?_
 ·rintro j f _ _ X r ⟨F,rfl,rfl,H⟩
  obtain⟨rr,Y⟩:=Qo C N j X
  have Z:=iD (k:=j) (by omega)
  have Se:(j:Int)<l.length:=by omega
  simp only[qB,seval,gd,zB,r,J,U,F,C.lenI,Se,Y,Z,K,W,iS]
  clear r
  grind [List.mem_take_iff_getElem]
 ·rintro f _ _ r ⟨F,rfl,rfl,H⟩
  rw[List.take_of_length_le (by simp)]at H
  simp only[qB,seval,gd,zB,r,J,F,C.lenI,K,iS,Int.lt_irrefl,H]
theorem ayY(l:List Of)(a:T)(F:List T)(J:g8 a l.length F)(K:ic OfR l F)(hlen:l.length≤oQ)(n:Nat)(hn:n≤l.length)(s:List Nat)(c:Ct)(a7 a8 a9 a10 hZ:T)(N:List T)(G7:Nat)(fr:Fr)(lh:hJ gR)(sh:List gR)(O:an fr 1= .ptr .L 1 1 0)(H:an fr 6= .i .i64 (n:Int))(U:an fr 7= .ptr .L 7 G7 0)(V:an fr 9= .i .i64 0)(W:a6 lh 1=⟨1,.cells (iS c a7 a8 a9 a10 hZ a) 0 true⟩)(X:a6 lh 7=⟨G7,.cells (.s s::N) 0 true⟩):
  Px pE 112 zA fr lh sh 8 2 (if s∈(l.map Of.nm).take n then 7 else 0) (fun C D=>C=lh∧D=sh):=by
 refine pq F5 (fun j f C D=>an f 9= .i .i64 (j:Int)∧C=lh∧D=sh∧s∉(l.map Of.nm).take j) n ⟨V,rfl,rfl,by simp⟩ ?_ ?_
 ·rintro j f _ _ hj r ⟨E,rfl,rfl,I⟩
  obtain⟨rr,Y⟩:=ZA J K j (by omega)
  have Z:=iD (k:=j) (by omega)
  have Se:(j:Int)<n:=by omega
  simp only[qB,seval,gd,zA,r,O,H,U,E,Se,Y,Z,W,X,iS]
  clear r
  grind [List.mem_take_iff_getElem]
 ·rintro f _ _ r ⟨E,rfl,rfl,I⟩
  simp only[qB,seval,gd,zA,r,H,E,Int.lt_irrefl,I]
section
variable(c:Ct)(a7 a8 a9 a10 hZ hU:T)(hT:xG c a7 a8 a9 a10 hZ hU)(hS:AK c)
include hT hS
theorem ayZ(fr:Fr)(lh:hJ gR)(sh:List gR)(O:an fr 1= .ptr .L 1 1 0)(V:an fr 3= .i .i64 0)(C:a6 lh 1=⟨1,.cells (iS c a7 a8 a9 a10 hZ hU) 0 true⟩):
  Px pE 112 zE fr lh sh 0 2 (Tf [] c.li) (fun D F=>a6 D 1=⟨1,.cells (iS c a7 a8 a9 a10 hZ hU) 0 true⟩∧F=sh):=by
 obtain⟨W,r,U⟩:=hT.h11
 have hlen:=hS.s11
 refine pq F8 (fun k f D F=>an f 3= .i .i64 (k:Int)∧a6 D 1=⟨1,.cells (iS c a7 a8 a9 a10 hZ hU) 0 true⟩∧F=sh∧Tf [] c.li=Tf ((c.li.map Li.nm).take k) (c.li.drop k)) c.li.length ⟨V,C,rfl,rfl⟩ ?_ ?_
 ·rintro k f D _ H E ⟨I,C,rfl,J⟩
  rw[List.drop_eq_getElem_cons H,Tf]at J
  obtain⟨rr,X⟩:=Qo r U k H
  have Y:=qM (tV c.li[k].nm)
  obtain⟨me,Z,K⟩:=ZE c.li[k].me
  have w1:=qM (sW c.li[k].mo 0 599999)
  have w2:=qM (sW c.li[k].da 1 31)
  obtain⟨G,hG⟩: ∃G,(a6 D 4).g+1=G:=⟨_,rfl⟩
  have N:=ayW c.li hZ W r U hlen k (by omega) c.li[k].nm c a7 a8 a9 a10 hU [.s c.li[k].me,.i .i64 c.li[k].mo,.i .i64 c.li[k].da] G
  have hw:=iD (k:=k) (by omega)
  have iu:(k:Int)<c.li.length:=by omega
  have sd:(c.li.map Li.nm).take (k+1)=(c.li.map Li.nm).take k++ [c.li[k].nm]:=by simp[List.take_succ_eq_append_getElem,H]
  unfold iS at C N ⊢
  simp only[qB,seval,gd,zE,F7,E,O,I,C,r.lenI,iu,X,hG,Y,JP,N,K,apN,w1,w2,Gm,hw]
  clear E N
  grind
 ·rintro f D _ E ⟨I,C,rfl,J⟩
  unfold iS at C ⊢
  simp only[qB,seval,gd,zE,E,O,I,C,r.lenI,Int.lt_irrefl,J,List.drop_length,Tf]
theorem ay0(fr:Fr)(lh:hJ gR)(sh:List gR)(V:an fr 1= .ptr .L 1 1 0)(X:an fr 6= .i .i64 0)(C:a6 lh 1=⟨1,.cells (iS c a7 a8 a9 a10 hZ hU) 0 true⟩):
  Px pE 112 zC fr lh sh 4 2 (TH (c.li.map Li.nm) c.fs) (fun D F=>F=sh):=by
 obtain⟨Y,H,Z⟩:=hT.h11
 obtain⟨yY,r,W⟩:=hT.h12
 have I:=hS.s11
 have hlen:=hS.s12
 refine pq QW (fun k f D F=>an f 6= .i .i64 (k:Int)∧a6 D 1=⟨1,.cells (iS c a7 a8 a9 a10 hZ hU) 0 true⟩∧F=sh∧TH (c.li.map Li.nm) c.fs=TH (c.li.map Li.nm++(c.fs.map Of.nm).take k) (c.fs.drop k)) c.fs.length ⟨X,C,rfl,by simp⟩ ?_ ?_
 ·rintro k f D _ J E ⟨K,C,rfl,N⟩
  rw[List.drop_eq_getElem_cons J,TH]at N
  obtain⟨rr,iv⟩:=ZA r W k J
  have zi:=qM (tV c.fs[k].nm)
  have w1:=qM (sW c.fs[k].da 1 31)
  have w2:=qM (sW c.fs[k].ct 1 c.fs[k].da)
  obtain⟨G,hG⟩: ∃G,(a6 D 7).g+1=G:=⟨_,rfl⟩
  have O:=ayX c.li hZ Y H Z I c.fs[k].nm c a7 a8 a9 a10 hU [.i .i64 c.fs[k].ct,.i .i64 c.fs[k].da] G
  have U:=ayY c.fs hU yY r W hlen k (by omega) c.fs[k].nm c a7 a8 a9 a10 hZ [.i .i64 c.fs[k].ct,.i .i64 c.fs[k].da] G
  have hw:=iD (k:=k) (by omega)
  have iu:(k:Int)<c.fs.length:=by omega
  have sd:(c.fs.map Of.nm).take (k+1)=(c.fs.map Of.nm).take k++ [c.fs[k].nm]:=by simp[List.take_succ_eq_append_getElem,J]
  unfold iS at C O U ⊢
  simp only[qB,seval,gd,zC,F6,F5,E,V,K,C,r.lenI,iu,iv,hG,zi,JP,O,U,w1,w2,Gm,hw]
  clear E O U
  grind
 ·rintro f D _ E ⟨K,C,rfl,N⟩
  unfold iS at C
  simp only[qB,seval,gd,zC,E,V,K,C,r.lenI,Int.lt_irrefl,N,List.drop_length,TH]
theorem adJ:gS pE 242 [.agg (iS c a7 a8 a9 a10 hZ hU)] []=some (.i .i64 (ZB c),[]):=by
 have r:=ayZ c a7 a8 a9 a10 hZ hU hT hS
 have C:=ay0 c a7 a8 a9 a10 hZ hU hT hS
 rw[gX ae6 (by simp[Uw])]
 unfold ZB
 unfold iS at r C ⊢
 simp(maxDischargeDepth:=6) only[qB,seval,Uw,F8,r,C]
 grind
end
theorem ay2(l:Cs)(a:T)(F:List T)(H:g8 a l.length F)(I:kD l F)(hlen:l.length≤oQ)(n:Nat)(O:n<l.length)(c:Ct)(a8 a9 a10 hZ hU:T)(fr:Fr)(lh:hJ gR)(sh:List gR)
  (U:an fr 1= .ptr .L 1 1 0) (J:an fr 3= .i .i64 (n:Int)) (V:an fr 4= .i .i64 0) (K:a6 lh 1=⟨1,.cells (iS c a a8 a9 a10 hZ hU) 0 true⟩):
  Px pE 235 zu fr lh sh 2 2 (if l[n].1∈(l.map Prod.fst).take n then 7 else 0) (fun C D=>C=lh∧D=sh):=by
 refine pq F2 (fun j f C D=>an f 4= .i .i64 (j:Int)∧C=lh∧D=sh∧l[n].1∉(l.map Prod.fst).take j) n ⟨V,rfl,rfl,by simp⟩ ?_ ?_
 ·rintro j f _ _ hj r ⟨E,rfl,rfl,N⟩
  obtain⟨b,cb,rr,W,jE,oV,hb⟩:=lL H I j (by omega)
  obtain⟨b',X,Y,Z,_⟩:=lL H I n O
  have hw:=iD (k:=j) (by omega)
  have Se:(j:Int)<n:=by omega
  unfold iS at K
  simp only[qB,seval,gd,zu,r,U,J,E,Se,W,Z,hw,K]
  clear r
  grind [List.mem_take_iff_getElem]
 ·rintro f _ _ r ⟨E,rfl,rfl,N⟩
  simp only[qB,seval,gd,zu,r,J,E,Int.lt_irrefl,N]
theorem ay3(l:List Ru)(a:T)(F:List T)(K:g8 a l.length F)(N:ic Tv l F)(hlen:l.length≤oQ)(n:Nat)(hn:n<l.length)(c:Ct)(a7 a9 a10 hZ hU:T)(O:List T)(G7:Nat)(fr:Fr)(lh:hJ gR)(sh:List gR)(U:an fr 1= .ptr .L 1 1 0)(H:an fr 6= .i .i64 (n:Int))(V:an fr 7= .ptr .L 7 G7 0)(W:an fr 8= .i .i64 0)(I:a6 lh 1=⟨1,.cells (iS c a7 a a9 a10 hZ hU) 0 true⟩)(X:a6 lh 7=⟨G7,.cells (.i .i64 l[n].sc:: .s l[n].nm::O) 0 true⟩):
  Px pE 235 zr fr lh sh 6 2 (if Jo l[n]∈(l.map Jo).take n then 7 else 0) (fun C D=>C=lh∧D=sh):=by
 refine pq F0 (fun j f C D=>an f 8= .i .i64 (j:Int)∧C=lh∧D=sh∧Jo l[n]∉(l.map Jo).take j) n ⟨W,rfl,rfl,by simp⟩ ?_ ?_
 ·rintro j f _ _ hj r ⟨E,rfl,rfl,J⟩
  obtain⟨b,cb,rr,Y,jE,hb⟩:=Ck K N j (by omega)
  have Z:=iD (k:=j) (by omega)
  have Se:(j:Int)<n:=by omega
  unfold iS at I
  simp only[qB,seval,gd,zr,r,U,H,V,E,Se,Y,Z,I,X]
  clear r
  grind [List.mem_take_iff_getElem,Jo]
 ·rintro f _ _ r ⟨E,rfl,rfl,J⟩
  simp only[qB,seval,gd,zr,r,H,E,Int.lt_irrefl,J]
section
variable(c:Ct)(a7 a8 a9 a10 hZ hU:T)(hT:xG c a7 a8 a9 a10 hZ hU)(hS:AK c)
include hT hS
theorem ay4(fr:Fr)(lh:hJ gR)(sh:List gR)(N:an fr 1= .ptr .L 1 1 0)(hi:an fr 3= .i .i64 0)(r:a6 lh 1=⟨1,.cells (iS c a7 a8 a9 a10 hZ hU) 0 true⟩):
  Px pE 235 zw fr lh sh 0 2 (Mh [] c.cs) (fun C H=>a6 C 1=⟨1,.cells (iS c a7 a8 a9 a10 hZ hU) 0 true⟩∧H=sh):=by
 obtain⟨U,E,O⟩:=hT.h7
 have hlen:=hS.s7.2
 refine pq F3 (fun k f C H=>an f 3= .i .i64 (k:Int)∧a6 C 1=⟨1,.cells (iS c a7 a8 a9 a10 hZ hU) 0 true⟩∧H=sh∧Mh [] c.cs=Mh ((c.cs.map Prod.fst).take k) (c.cs.drop k)) c.cs.length ⟨hi,r,rfl,rfl⟩ ?_ ?_
 ·rintro k f C _ D F ⟨I,r,rfl,J⟩
  rw[List.drop_eq_getElem_cons D,Mh]at J
  obtain⟨b,cb,rr,V,W,oV,X⟩:=lL E O k D
  have Y:=qM (tV c.cs[k].1)
  have FJ:=rn c.cs[k].2 _ X (hS.s7.1 c.cs[k] (List.getElem_mem D)).2
  have K:=ay2 c.cs a7 U E O hlen k D c a8 a9 a10 hZ hU
  have Z:=iD (k:=k) (by omega)
  have iu:(k:Int)<c.cs.length:=by omega
  have sd:(c.cs.map Prod.fst).take (k+1)=(c.cs.map Prod.fst).take k++ [c.cs[k].1]:=by simp[List.take_succ_eq_append_getElem,D]
  unfold iS at r K ⊢
  simp only[qB,seval,gd,zw,F2,F,N,I,r,E.lenI,iu,V,Y,JP,K,W.froz1,FJ,BY,Z]
  clear F K
  grind
 ·rintro f C _ F ⟨I,r,rfl,J⟩
  unfold iS at r ⊢
  simp only[qB,seval,gd,zw,F,N,I,r,E.lenI,Int.lt_irrefl,J,List.drop_length,Mh]
theorem ay5(fr:Fr)(lh:hJ gR)(sh:List gR)(N:an fr 1= .ptr .L 1 1 0)(hi:an fr 6= .i .i64 0)(r:a6 lh 1=⟨1,.cells (iS c a7 a8 a9 a10 hZ hU) 0 true⟩):
  Px pE 235 zt fr lh sh 4 2 (Jm [] c.ru) (fun C H=>a6 C 1=⟨1,.cells (iS c a7 a8 a9 a10 hZ hU) 0 true⟩∧H=sh):=by
 obtain⟨U,E,O⟩:=hT.h8
 have hlen:=hS.s8.2
 refine pq F1 (fun k f C H=>an f 6= .i .i64 (k:Int)∧a6 C 1=⟨1,.cells (iS c a7 a8 a9 a10 hZ hU) 0 true⟩∧H=sh∧Jm [] c.ru=Jm ((c.ru.map Jo).take k) (c.ru.drop k)) c.ru.length ⟨hi,r,rfl,rfl⟩ ?_ ?_
 ·rintro k f C _ D F ⟨I,r,rfl,J⟩
  rw[List.drop_eq_getElem_cons D,Jm]at J
  obtain⟨b,cb,rr,V,W,X⟩:=Ck E O k D
  have Y:=qM (tV c.ru[k].nm)
  have Z:=qM (sW c.ru[k].sc 1 3)
  have FJ:=rn c.ru[k].x _ X (hS.s8.1 c.ru[k] (List.getElem_mem D)).2
  obtain⟨G,hG⟩: ∃G,(a6 C 7).g+1=G:=⟨_,rfl⟩
  have K:=ay3 c.ru a8 U E O hlen k D c a7 a9 a10 hZ hU [.i .i64 c.ru[k].x.op,.i .i64 c.ru[k].x.num,.s c.ru[k].x.name,b] G
  have hw:=iD (k:=k) (by omega)
  have iu:(k:Int)<c.ru.length:=by omega
  have sd:(c.ru.map Jo).take (k+1)=(c.ru.map Jo).take k++ [(c.ru[k].sc,c.ru[k].nm)]:=by simp[List.take_succ_eq_append_getElem,D,Jo]
  unfold iS at r K ⊢
  simp only[qB,seval,gd,zt,F0,F,N,I,r,E.lenI,iu,V,hG,Y,JP,Z,Gm,K,W.froz1,FJ,BY,hw]
  clear F K
  grind [Jo]
 ·rintro f C _ F ⟨I,r,rfl,J⟩
  unfold iS at r ⊢
  simp only[qB,seval,gd,zt,F,N,I,r,E.lenI,Int.lt_irrefl,J,List.drop_length,Jm]
theorem ay6(fr:Fr)(lh:hJ gR)(sh:List gR)(K:an fr 1= .ptr .L 1 1 0)(hi:an fr 10= .i .i64 0)(r:a6 lh 1=⟨1,.cells (iS c a7 a8 a9 a10 hZ hU) 0 true⟩):
  Px pE 235 zq fr lh sh 8 2 (Nt c.co) (fun C E=>a6 C 1=⟨1,.cells (iS c a7 a8 a9 a10 hZ hU) 0 true⟩∧E=sh):=by
 obtain⟨Z,F,N⟩:=hT.h9
 have hlen:=hS.s9.2
 refine pq FZ (fun k f C E=>an f 10= .i .i64 (k:Int)∧a6 C 1=⟨1,.cells (iS c a7 a8 a9 a10 hZ hU) 0 true⟩∧E=sh∧Nt c.co=Nt (c.co.drop k)) c.co.length ⟨hi,r,rfl,rfl⟩ ?_ ?_
 ·rintro k f C _ H D ⟨I,r,rfl,J⟩
  rw[List.drop_eq_getElem_cons H,Nt]at J
  obtain⟨b,cb,rr,O,U,V⟩:=Ez F N k H
  have W:=qM (sW c.co[k].sc 1 3)
  have FJ:=rn c.co[k].x _ V (hS.s9.1 c.co[k] (List.getElem_mem H)).2
  have X:=iD (k:=k) (by omega)
  have Y:(k:Int)<c.co.length:=by omega
  unfold iS at r ⊢
  simp only[qB,seval,gd,zq,D,K,I,r,F.lenI,Y,O,W,Gm,U.froz1,FJ,BY,X]
  clear D
  grind
 ·rintro f C _ D ⟨I,r,rfl,J⟩
  unfold iS at r ⊢
  simp only[qB,seval,gd,zq,D,K,I,r,F.lenI,Int.lt_irrefl,J,List.drop_length,Nt]
theorem ay7(fr:Fr)(lh:hJ gR)(sh:List gR)(K:an fr 1= .ptr .L 1 1 0)(hi:an fr 12= .i .i64 0)(r:a6 lh 1=⟨1,.cells (iS c a7 a8 a9 a10 hZ hU) 0 true⟩):
  Px pE 235 zp fr lh sh 10 2 (Nu c.cr) (fun D F=>a6 D 1=⟨1,.cells (iS c a7 a8 a9 a10 hZ hU) 0 true⟩∧F=sh):=by
 obtain⟨Y,C,N⟩:=hT.h10
 have hlen:=hS.s10.2
 refine pq FY (fun k f D F=>an f 12= .i .i64 (k:Int)∧a6 D 1=⟨1,.cells (iS c a7 a8 a9 a10 hZ hU) 0 true⟩∧F=sh∧Nu c.cr=Nu (c.cr.drop k)) c.cr.length ⟨hi,r,rfl,rfl⟩ ?_ ?_
 ·rintro k f D _ H E ⟨I,r,rfl,J⟩
  rw[List.drop_eq_getElem_cons H,Nu]at J
  obtain⟨b,Z,rr,O,U,oV,V⟩:=mY C N k H
  have FJ:=rn c.cr[k] _ V (hS.s10.1 c.cr[k] (List.getElem_mem H)).2
  have W:=iD (k:=k) (by omega)
  have X:(k:Int)<c.cr.length:=by omega
  unfold iS at r ⊢
  simp only[qB,seval,gd,zp,E,K,I,r,C.lenI,X,O,U.froz1,FJ,BY,W]
  clear E
  grind
 ·rintro f D _ E ⟨I,r,rfl,J⟩
  unfold iS at r ⊢
  simp only[qB,seval,gd,zp,E,K,I,r,C.lenI,Int.lt_irrefl,J,List.drop_length,Nu]
end
section
variable(c:Ct)(a7 a8 a9 a10 hZ hU:T)(hT:xG c a7 a8 a9 a10 hZ hU)(hS:AK c)
include hT hS
theorem ZI:gS pE 155 [.agg (iS c a7 a8 a9 a10 hZ hU)] []=some (.i .i64 (mz c),[]):=by
 have E:=adJ c a7 a8 a9 a10 hZ hU hT hS
 have F:=ay4 c a7 a8 a9 a10 hZ hU hT hS
 have H:=ay5 c a7 a8 a9 a10 hZ hU hT hS
 have I:=ay6 c a7 a8 a9 a10 hZ hU hT hS
 have J:=ay7 c a7 a8 a9 a10 hZ hU hT hS
 obtain⟨⟨U,K,V⟩,⟨W,N,X⟩,⟨Y,O,Z⟩,⟨vv,r,vw⟩,⟨yg,C,xH⟩,⟨yY,D,yt⟩⟩:=hT
 have w:=fun n lo hi=>qM (sW n lo hi)
 unfold iS at F H I J E ⊢
 rw[gX Va (by simp[Mn])]
 unfold mz pw sU
 simp(maxDischargeDepth:=6) only[qB,seval,Mn,FY,FZ,F1,F3,K.lenI,N.lenI,O.lenI,r.lenI,C.lenI,D.lenI,K.froz1,N.froz1,O.froz1,r.froz1,C.froz1,D.froz1,w,Gm,F,H,I,J,E,apC]
 clear F H I J E w hS
 grind (splits:=40)
end
def FW(s:List Nat):Prop:=ki 1 s≠0∨ki 2 s≠0∨ki 3 s≠0
instance (s:List Nat):Decidable (FW s):=by unfold FW;infer_instance
def Th(l:Cs):Nat→Cs→Int
 |_,[]=>0
 |k,c::r=>if FW c.1 then 7 else if(wa l k).2≠0 then(wa l k).2 else Th l (k+1) r
def FO(l:Cs)(scope:Int)(x:Ex)(i:Int):Int:=if(sN l scope x).2=0∧(sN l scope x).1≠i then 9 else(sN l scope x).2
def Nw(l:Cs):List Ru→Int
 | []=>0
 |u::r=>if FO l u.sc u.x 4≠0 then FO l u.sc u.x 4 else Nw l r
def Nx(l:Cs):List Co→Int
 | []=>0
 |u::r=>if FO l u.sc u.x 1≠0 then FO l u.sc u.x 1 else Nx l r
def PF(l:Cs):List Ex→Int
 | []=>0
 |x::r=>if FO l 1 x 2≠0 then FO l 1 x 2 else PF l r
def my(c:Ct):Int:=if mz c≠0 then mz c else if Th c.cs 0 c.cs≠0 then Th c.cs 0 c.cs else if Nw c.cs c.ru≠0 then Nw c.cs c.ru else if Nx c.cs c.co≠0 then Nx c.cs c.co else PF c.cs c.cr
def vH(l:Cs)(lT:T)(sh:List gR):Prop:= ∃kn,sh=A4 lT (jh l l.length) kn∧AV l kn
def atX(s:List Nat)(j:Nat):Prop:= ∀i:Nat,i<j→ki ((i:Int)+1) s=0
theorem ay8(s:List Nat)(K:List T)(G:Nat)(o:Out)(I:o=if FW s then .ret else .ext 2)(fr:Fr)(lh:hJ gR)(sh:List gR)(D:an fr 6= .ptr .L 6 G 0)(r:an fr 7= .i .i64 1)(J:a6 lh 6=⟨G,.cells (.s s::K) 0 true⟩):
  kV 115 uz fr lh sh o∧((FW s→an (kh pE 115 uz fr lh sh) 2= .i .i64 7)∧kH pE 115 uz fr lh sh=lh∧kb pE 115 uz fr lh sh=sh):=by
 refine ib (P:=fun N O U=>(FW s→an N 2= .i .i64 7)∧O=lh∧U=sh) (ij (fun j st=> ∃fr:Fr,st=⟨fr,lh,sh⟩∧an fr 6= .ptr .L 6 G 0∧an fr 7= .i .i64 ((j:Int)+1)∧atX s j) _ 3 ?_ ?_ 0 _ (Nat.zero_le _) ⟨fr,rfl,D,r,fun i h=>by omega⟩)
 ·rintro j _ W ⟨fr,rfl,D,r,t⟩
  have E:=KE ((j:Int)+1) s
  unfold tW at E
  have F:(j:Int)+1≤3:=by omega
  have V:wr .i64 ((j:Int)+1+1)=((j+1:Nat):Int)+1:=by
   have:=iD (k:=j+1) (ku (by omega))
   push_cast at this ⊢
   exact this
  by_cases C:ki ((j:Int)+1) s=0
  ·left
   rw[if_pos C,C]at E
   simp only[qA,seval,uz,D,r,J,F,V,E,Ge]
   refine⟨_,rfl,_,rfl, ?_, ?_, ?_⟩
   ·simp only[qA,seval,D]
   ·simp only[qA,seval]
   ·intro i h
    by_cases e:i=j
    ·subst e;exact C
    ·exact t i (by omega)
  ·right
   rw[if_neg C]at E
   have H:FW s:=by
    unfold FW
    have:j=0∨j=1∨j=2:=by omega
    rcases this with rfl|rfl|rfl
    ·exact .inl C
    ·exact .inr (.inl C)
    ·exact .inr (.inr C)
   simp only[qA,seval,uz,D,r,J,F,E,Ge]
   exact⟨_,_,jJ,rfl,by rw[I,if_pos H],fun _=>by simp only[qA,seval],rfl,rfl⟩
 ·rintro _ ⟨fr,rfl,D,r,t⟩
  have H: ¬FW s:=by
   unfold FW
   rintro(h|h|h)
   ·exact h (t 0 (by decide))
   ·exact h (t 1 (by decide))
   ·exact h (t 2 (by decide))
  rw[show((3:Nat):Int)+1=4 from rfl]at r
  simp only[qA,seval,uz,r]
  exact⟨_,_,jB,rfl,by rw[I,if_neg H],fun h=>absurd h H,rfl,rfl⟩
section
variable(l:Cs)(lT:T)(cl:List T)(hl:g8 lT l.length cl)(lM:kD l cl)(hlen:l.length≤oQ)(qJ:Ym l)
include hl lM hlen qJ
theorem Jd(scope r:Int)(x:Ex)(cs:List T)(H:lK x cs)(I:Mc x)(sh:List gR)(O:vH l lT sh): ∃J,gS pE 145 [.ptr .S 2 1 0,.i .i64 scope,.i .i64 (l.length:Int),.agg cs,.i .i64 r] sh=some (.i .i64 (FO l scope x r),J)∧vH l lT J:=by
 obtain⟨kn,rfl,U⟩:=O
 obtain⟨D,C,E,_⟩:=Ze l lT cl hl lM hlen l.length (Nat.le_refl _) (fun j V=>Zf l lT cl hl lM hlen qJ j V) scope x cs H I.1 I.2 kn U
 have W:S4 l l.length scope x=sN l scope x:=by unfold S4 sN Ho;rw[List.take_length]
 rw[W]at C
 obtain⟨a,Z,rfl,F,BB⟩:=H.cells
 rw[gX aej (by simp[Mm])]
 unfold FO
 generalize sN l scope x=q at*
 obtain⟨X,Y⟩:=q
 simp only at C ⊢
 by_cases K:Y=0
 ·subst K
  by_cases N:X=r
  ·subst N
   simp only[qA,seval,kq,Mm,C,JO,F.kept1]
   exact⟨_,rfl,D,rfl,E⟩
  ·simp only[qA,seval,kq,Mm,C,JO,F.kept1,N]
   exact⟨_,rfl,D,rfl,E⟩
 ·simp only[qA,seval,kq,Mm,C,JO,F.kept1,K]
  exact⟨_,rfl,D,rfl,E⟩
end
section
variable(c:Ct)(a7 a8 a9 a10 hZ hU:T)(hT:xG c a7 a8 a9 a10 hZ hU)(hS:AK c)
include hT hS
theorem ay9(r:Int)(C:r=Th c.cs 0 c.cs)(o:Out)(ho:o=if r=0 then .ext 0 else .ret)(O:gR)(fr:Fr)(lh:hJ gR)(sh:List gR)(U:vH c.cs a7 sh)
  (I:an fr 4= .ptr .S 2 1 0) (Iq:an fr 31=a7) (E:an fr 32= .i .i64 (c.cs.length:Int)) (F:an fr 33= .i .i64 0) (H:a6 lh 1=O):
  kV 115 ta fr lh sh o∧
  ((r≠0→an (kh pE 115 ta fr lh sh) 2= .i .i64 r)∧a6 (kH pE 115 ta fr lh sh) 1=O∧vH c.cs a7 (kb pE 115 ta fr lh sh)):=by
 obtain⟨⟨c7,i7,j7⟩,⟨c8,i8,j8⟩,⟨c9,i9,j9⟩,⟨vv,i10,vw⟩,⟨yg,i11,xH⟩,⟨yY,i12,yt⟩⟩:=hT
 have hlen:=hS.s7.2
 refine ib (P:=fun iq il iw=>(r≠0→an iq 2= .i .i64 r)∧a6 il 1=O∧vH c.cs a7 iw)
  (ij (fun k st=> ∃(fr:Fr) (K:hJ gR) (Fk:List gR),st=⟨fr,K,Fk⟩∧vH c.cs a7 Fk∧an fr 4= .ptr .S 2 1 0∧an fr 31=a7∧an fr 32= .i .i64 (c.cs.length:Int)∧an fr 33= .i .i64 (k:Int)∧a6 K 1=O∧r=Th c.cs k (c.cs.drop k)) _ c.cs.length ?_ ?_ 0 _ (Nat.zero_le _) ⟨fr,lh,sh,rfl,U,I,Iq,E,F,H,by rw[C];rfl⟩)
 ·rintro k _ V ⟨fr,K,Fk,rfl,⟨kn,rfl,oH⟩,I,Iq,E,F,H,C⟩
  have W:(k:Int)<c.cs.length:=by omega
  have hw:=iD (k:=k) (by omega)
  rw[List.drop_eq_getElem_cons V,Th]at C
  have D: ∀e:Int,e≠0→r=e→o= .ret:=fun e he h=>by rw[ho,h,if_neg he]
  obtain⟨b,cb,rr,X,jE,oV,hb⟩:=lL i7 j7 k V
  obtain⟨jH,Y,oj,_⟩:=Zf c.cs a7 c7 i7 j7 hlen hS.s7.1 k V kn oH
  generalize c.cs[k]=u at*
  generalize Z:(a6 K 6).g+1=G
  have J:=fun fr lh sh g6 g7 o6=>ay8 u.1 [.i .i64 u.2.op,.i .i64 u.2.num,.s u.2.name,b] G _ rfl fr lh sh g6 g7 o6
  by_cases hs:FW u.1
  ·right
   rw[if_pos hs]at C
   simp only[hs,if_true,forall_const]at J
   simp only[qA,seval,ta,Iq,E,F,W,X,Z,J]
   refine⟨_,_,jJ,rfl,(D _ (by decide) C).symm,fun _=> ?_, ?_,kn, ?_,oH⟩ <;> simp only[qA,seval,C,H,J]
  rw[if_neg hs]at C
  simp only[hs,if_false,false_implies,true_and]at J
  generalize wa c.cs k=q at*
  obtain⟨q1,q2⟩:=q
  simp only at Y C
  by_cases N:q2=0
  ·left
   rw[if_neg (by simp[N])]at C
   subst N
   simp only[qA,seval,kq,ta,I,Iq,E,F,W,X,hw,Z,J,Di,Y,U7]
   refine⟨_,rfl,_,_,_,rfl,⟨jH,rfl,oj⟩, ?_, ?_, ?_, ?_, ?_,C⟩
   all_goals (simp only[qA,seval,I,Iq,E,H,Di])
  ·right
   rw[if_pos N]at C
   simp only[qA,seval,kq,ta,I,Iq,E,F,W,X,Z,J,Di,Y,U7,N]
   refine⟨_,_,jJ,rfl,(D _ N C).symm,fun _=> ?_, ?_,jH, ?_,oj⟩ <;> simp only[qA,seval,C,H]
 ·rintro _ ⟨fr,K,Fk,rfl,U,I,Iq,E,F,H,C⟩
  rw[List.drop_length,Th]at C
  simp only[qA,seval,ta,E,F,Int.lt_irrefl]
  exact⟨_,_,jB,rfl,by rw[ho,C];rfl,fun h=>absurd C h,H,U⟩
end
section
variable(c:Ct)(a7 a8 a9 a10 hZ hU:T)(hT:xG c a7 a8 a9 a10 hZ hU)(hS:AK c)
include hT hS
theorem aza(r:Int)(D:r=Nw c.cs c.ru)(o:Out)(U:o=if r=0 then .ext 4 else .ret)(J:gR)(fr:Fr)(lh:hJ gR)(sh:List gR)(N:vH c.cs a7 sh)
  (F:an fr 4= .ptr .S 2 1 0) (C:an fr 12= .i .i64 (c.cs.length:Int)) (hs:an fr 65=a8) (hl:an fr 66= .i .i64 (c.ru.length:Int)) (hi:an fr 67= .i .i64 0) (H:a6 lh 1=J):
  kV 115 uy fr lh sh o∧
  ((r≠0→an (kh pE 115 uy fr lh sh) 2= .i .i64 r)∧a6 (kH pE 115 uy fr lh sh) 1=J∧vH c.cs a7 (kb pE 115 uy fr lh sh)):=by
 obtain⟨⟨Z,i7,j7⟩,⟨c8,i8,j8⟩,⟨c9,i9,j9⟩,⟨vv,i10,vw⟩,⟨yg,i11,xH⟩,⟨yY,i12,yt⟩⟩:=hT
 have hlen:=hS.s8.2
 refine ib (P:=fun iq il iw=>(r≠0→an iq 2= .i .i64 r)∧a6 il 1=J∧vH c.cs a7 iw)
  (ij (fun k st=> ∃(fr:Fr) (K:hJ gR) (Fk:List gR),st=⟨fr,K,Fk⟩∧vH c.cs a7 Fk∧an fr 4= .ptr .S 2 1 0∧an fr 12= .i .i64 (c.cs.length:Int)∧an fr 65=a8∧an fr 66= .i .i64 (c.ru.length:Int)∧an fr 67= .i .i64 (k:Int)∧a6 K 1=J∧r=Nw c.cs (c.ru.drop k)) _ c.ru.length ?_ ?_ 0 _ (Nat.zero_le _) ⟨fr,lh,sh,rfl,N,F,C,hs,hl,hi,H,by rw[D];rfl⟩)
 ·rintro k _ O ⟨fr,K,Fk,rfl,ZJ,F,C,hs,hl,hi,H,D⟩
  have V:(k:Int)<c.ru.length:=by omega
  have hw:=iD (k:=k) (by omega)
  rw[List.drop_eq_getElem_cons O,Nw]at D
  have E: ∀e:Int,e≠0→r=e→o= .ret:=fun e he h=>by rw[U,h,if_neg he]
  obtain⟨b,cb,rr,W,X,hb⟩:=Ck i8 j8 k O
  have ZK:=hS.s8.1 c.ru[k] (List.getElem_mem O)
  generalize c.ru[k]=u at*
  obtain⟨sh2,Y,LY⟩:=Jd c.cs a7 Z i7 j7 hS.s7.2 hS.s7.1 u.sc 4 u.x _ hb ZK Fk ZJ
  generalize FO c.cs u.sc u.x 4=e at*
  by_cases I:e=0
  ·left
   rw[if_neg (by simp[I])]at D
   subst I
   simp only[qA,seval,kq,uy,F,C,hs,hl,hi,V,W,hw,X.kept1,Y,Gg]
   refine⟨_,rfl,_,_,_,rfl,LY, ?_, ?_, ?_, ?_, ?_, ?_,D⟩
   all_goals (simp only[qA,seval,F,C,hs,hl,H])
  ·right
   rw[if_pos I]at D
   simp only[qA,seval,kq,uy,F,C,hs,hl,hi,V,W,X.kept1,Y,Gg,I]
   refine⟨_,_,jJ,rfl,(E _ I D).symm,fun _=> ?_, ?_,LY⟩ <;> simp only[qA,seval,D,H]
 ·rintro _ ⟨fr,K,Fk,rfl,N,F,C,hs,hl,hi,H,D⟩
  rw[List.drop_length,Nw]at D
  simp only[qA,seval,uy,hl,hi,Int.lt_irrefl]
  exact⟨_,_,jB,rfl,by rw[U,D];rfl,fun h=>absurd D h,H,N⟩
theorem azb(r:Int)(D:r=Nx c.cs c.co)(o:Out)(U:o=if r=0 then .ext 6 else .ret)(J:gR)(fr:Fr)(lh:hJ gR)(sh:List gR)(N:vH c.cs a7 sh)
  (F:an fr 4= .ptr .S 2 1 0) (C:an fr 12= .i .i64 (c.cs.length:Int)) (hs:an fr 83=a9) (hl:an fr 84= .i .i64 (c.co.length:Int)) (hi:an fr 85= .i .i64 0) (H:a6 lh 1=J):
  kV 115 ux fr lh sh o∧
  ((r≠0→an (kh pE 115 ux fr lh sh) 2= .i .i64 r)∧a6 (kH pE 115 ux fr lh sh) 1=J∧vH c.cs a7 (kb pE 115 ux fr lh sh)):=by
 obtain⟨⟨Z,i7,j7⟩,⟨c8,i8,j8⟩,⟨c9,i9,j9⟩,⟨vv,i10,vw⟩,⟨yg,i11,xH⟩,⟨yY,i12,yt⟩⟩:=hT
 have hlen:=hS.s9.2
 refine ib (P:=fun iq il iw=>(r≠0→an iq 2= .i .i64 r)∧a6 il 1=J∧vH c.cs a7 iw)
  (ij (fun k st=> ∃(fr:Fr) (K:hJ gR) (Fk:List gR),st=⟨fr,K,Fk⟩∧vH c.cs a7 Fk∧an fr 4= .ptr .S 2 1 0∧an fr 12= .i .i64 (c.cs.length:Int)∧an fr 83=a9∧an fr 84= .i .i64 (c.co.length:Int)∧an fr 85= .i .i64 (k:Int)∧a6 K 1=J∧r=Nx c.cs (c.co.drop k)) _ c.co.length ?_ ?_ 0 _ (Nat.zero_le _) ⟨fr,lh,sh,rfl,N,F,C,hs,hl,hi,H,by rw[D];rfl⟩)
 ·rintro k _ O ⟨fr,K,Fk,rfl,ZJ,F,C,hs,hl,hi,H,D⟩
  have V:(k:Int)<c.co.length:=by omega
  have hw:=iD (k:=k) (by omega)
  rw[List.drop_eq_getElem_cons O,Nx]at D
  have E: ∀e:Int,e≠0→r=e→o= .ret:=fun e he h=>by rw[U,h,if_neg he]
  obtain⟨b,cb,rr,W,X,hb⟩:=Ez i9 j9 k O
  have ZK:=hS.s9.1 c.co[k] (List.getElem_mem O)
  generalize c.co[k]=u at*
  obtain⟨sh2,Y,LY⟩:=Jd c.cs a7 Z i7 j7 hS.s7.2 hS.s7.1 u.sc 1 u.x _ hb ZK Fk ZJ
  generalize FO c.cs u.sc u.x 1=e at*
  by_cases I:e=0
  ·left
   rw[if_neg (by simp[I])]at D
   subst I
   simp only[qA,seval,kq,ux,F,C,hs,hl,hi,V,W,hw,X.kept1,Y,Gg]
   refine⟨_,rfl,_,_,_,rfl,LY, ?_, ?_, ?_, ?_, ?_, ?_,D⟩
   all_goals (simp only[qA,seval,F,C,hs,hl,H])
  ·right
   rw[if_pos I]at D
   simp only[qA,seval,kq,ux,F,C,hs,hl,hi,V,W,X.kept1,Y,Gg,I]
   refine⟨_,_,jJ,rfl,(E _ I D).symm,fun _=> ?_, ?_,LY⟩ <;> simp only[qA,seval,D,H]
 ·rintro _ ⟨fr,K,Fk,rfl,N,F,C,hs,hl,hi,H,D⟩
  rw[List.drop_length,Nx]at D
  simp only[qA,seval,ux,hl,hi,Int.lt_irrefl]
  exact⟨_,_,jB,rfl,by rw[U,D];rfl,fun h=>absurd D h,H,N⟩
theorem azc(r:Int)(D:r=PF c.cs c.cr)(o:Out)(V:o=if r=0 then .ext 8 else .ret)(J:gR)(fr:Fr)(lh:hJ gR)(sh:List gR)(N:vH c.cs a7 sh)
  (F:an fr 4= .ptr .S 2 1 0) (C:an fr 12= .i .i64 (c.cs.length:Int)) (hs:an fr 101=a10) (hl:an fr 102= .i .i64 (c.cr.length:Int)) (hi:an fr 103= .i .i64 0) (H:a6 lh 1=J):
  kV 115 wi fr lh sh o∧
  ((r≠0→an (kh pE 115 wi fr lh sh) 2= .i .i64 r)∧a6 (kH pE 115 wi fr lh sh) 1=J∧vH c.cs a7 (kb pE 115 wi fr lh sh)):=by
 obtain⟨⟨c7,i7,j7⟩,⟨c8,i8,j8⟩,⟨c9,i9,j9⟩,⟨vv,O,vw⟩,⟨yg,i11,xH⟩,⟨yY,i12,yt⟩⟩:=hT
 have hlen:=hS.s10.2
 refine ib (P:=fun iq il iw=>(r≠0→an iq 2= .i .i64 r)∧a6 il 1=J∧vH c.cs a7 iw)
  (ij (fun k st=> ∃(fr:Fr) (K:hJ gR) (Fk:List gR),st=⟨fr,K,Fk⟩∧vH c.cs a7 Fk∧an fr 4= .ptr .S 2 1 0∧an fr 12= .i .i64 (c.cs.length:Int)∧an fr 101=a10∧an fr 102= .i .i64 (c.cr.length:Int)∧an fr 103= .i .i64 (k:Int)∧a6 K 1=J∧r=PF c.cs (c.cr.drop k)) _ c.cr.length ?_ ?_ 0 _ (Nat.zero_le _) ⟨fr,lh,sh,rfl,N,F,C,hs,hl,hi,H,by rw[D];rfl⟩)
 ·rintro k _ U ⟨fr,K,Fk,rfl,ZJ,F,C,hs,hl,hi,H,D⟩
  have W:(k:Int)<c.cr.length:=by omega
  have hw:=iD (k:=k) (by omega)
  rw[List.drop_eq_getElem_cons U,PF]at D
  have E: ∀e:Int,e≠0→r=e→o= .ret:=fun e he h=>by rw[V,h,if_neg he]
  obtain⟨b,cb,rr,X,Y,oV,hb⟩:=mY O vw k U
  have ZK:=hS.s10.1 c.cr[k] (List.getElem_mem U)
  generalize c.cr[k]=u at*
  obtain⟨sh2,Z,LY⟩:=Jd c.cs a7 c7 i7 j7 hS.s7.2 hS.s7.1 1 2 u _ hb ZK Fk ZJ
  generalize FO c.cs 1 u 2=e at*
  by_cases I:e=0
  ·left
   rw[if_neg (by simp[I])]at D
   subst I
   simp only[qA,seval,kq,wi,F,C,hs,hl,hi,W,X,hw,Y.kept1,Z,Gg]
   refine⟨_,rfl,_,_,_,rfl,LY, ?_, ?_, ?_, ?_, ?_, ?_,D⟩
   all_goals (simp only[qA,seval,F,C,hs,hl,H])
  ·right
   rw[if_pos I]at D
   simp only[qA,seval,kq,wi,F,C,hs,hl,hi,W,X,Y.kept1,Z,Gg,I]
   refine⟨_,_,jJ,rfl,(E _ I D).symm,fun _=> ?_, ?_,LY⟩ <;> simp only[qA,seval,D,H]
 ·rintro _ ⟨fr,K,Fk,rfl,N,F,C,hs,hl,hi,H,D⟩
  rw[List.drop_length,PF]at D
  simp only[qA,seval,wi,hl,hi,Int.lt_irrefl]
  exact⟨_,_,jB,rfl,by rw[V,D];rfl,fun h=>absurd D h,H,N⟩
theorem PD: ∃s,gS pE 87 [.agg (iS c a7 a8 a9 a10 hZ hU)] []=some (.i .i64 (my c),s):=by
 have EF:=ZH c a7 a8 a9 a10 hZ hU hT hS
 have J:=fun fr lh sh O U Iq vX vY V=>ay9 c a7 a8 a9 a10 hZ hU hT hS _ rfl _ rfl ⟨1,.cells (iS c a7 a8 a9 a10 hZ hU) 0 true⟩ fr lh sh O U Iq vX vY V
 have N:=fun fr lh sh O U F hs hl hi V=>aza c a7 a8 a9 a10 hZ hU hT hS _ rfl _ rfl ⟨1,.cells (iS c a7 a8 a9 a10 hZ hU) 0 true⟩ fr lh sh O U F hs hl hi V
 have W:=fun fr lh sh O U F hs hl hi V=>azb c a7 a8 a9 a10 hZ hU hT hS _ rfl _ rfl ⟨1,.cells (iS c a7 a8 a9 a10 hZ hU) 0 true⟩ fr lh sh O U F hs hl hi V
 have X:=fun fr lh sh O U F hs hl hi V=>azc c a7 a8 a9 a10 hZ hU hT hS _ rfl _ rfl ⟨1,.cells (iS c a7 a8 a9 a10 hZ hU) 0 true⟩ fr lh sh O U F hs hl hi V
 obtain⟨⟨c7,r,j7⟩,⟨c8,I,j8⟩,⟨c9,K,j9⟩,⟨vv,C,vw⟩,⟨yg,D,xH⟩,⟨yY,E,yt⟩⟩:=hT
 have Y:=akd c.cs a7 c7 r j7 hS.s7.2
 have H:vH c.cs a7 (A4 a7 (jh c.cs c.cs.length) []):=⟨[],rfl,fun i t h=>by cases h⟩
 unfold iS at J N W X EF ⊢
 rw[gX ahE (by simp[Tk])]
 unfold my
 by_cases Z:mz c=0
 ·rw[Z]at EF
  rw[if_neg (by simp[Z])]
  by_cases e1:Th c.cs 0 c.cs=0
  ·rw[e1]at J
   rw[if_neg (by simp[e1])]
   simp only[if_true,ne_eq,not_true_eq_false,false_implies,true_and]at J
   by_cases e2:Nw c.cs c.ru=0
   ·rw[e2]at N
    rw[if_neg (by simp[e2])]
    simp only[if_true,ne_eq,not_true_eq_false,false_implies,true_and]at N
    by_cases e3:Nx c.cs c.co=0
    ·rw[e3]at W
     rw[if_neg (by simp[e3])]
     simp only[if_true,ne_eq,not_true_eq_false,false_implies,true_and]at W
     by_cases e4:PF c.cs c.cr=0
     ·rw[e4]at X
      simp only[if_true,ne_eq,not_true_eq_false,false_implies,true_and]at X
      simp(maxDischargeDepth:=6) only[qA,seval,Tk,Jt,Dh,zk,r.lenI,I.lenI,K.lenI,C.lenI,r.froz1,I.froz1,K.froz1,C.froz1,D.froz1,E.froz1,r.kept,EF,Dq,Y,JG,H,J,N,W,X,e4]
      exact⟨_,rfl⟩
     ·simp only[e4,if_false,ne_eq,not_false_eq_true,forall_const]at X
      simp(maxDischargeDepth:=6) only[qA,seval,Tk,Jt,Dh,zk,r.lenI,I.lenI,K.lenI,C.lenI,r.froz1,I.froz1,K.froz1,C.froz1,D.froz1,E.froz1,r.kept,EF,Dq,Y,JG,H,J,N,W,X]
      exact⟨_,rfl⟩
    ·rw[if_pos e3]
     simp only[e3,if_false,ne_eq,not_false_eq_true,forall_const]at W
     simp(maxDischargeDepth:=6) only[qA,seval,Tk,Dh,zk,r.lenI,I.lenI,K.lenI,r.froz1,I.froz1,K.froz1,C.froz1,D.froz1,E.froz1,r.kept,EF,Dq,Y,JG,H,J,N,W]
     exact⟨_,rfl⟩
   ·rw[if_pos e2]
    simp only[e2,if_false,ne_eq,not_false_eq_true,forall_const]at N
    simp(maxDischargeDepth:=6) only[qA,seval,Tk,zk,r.lenI,I.lenI,r.froz1,I.froz1,K.froz1,C.froz1,D.froz1,E.froz1,r.kept,EF,Dq,Y,JG,H,J,N]
    exact⟨_,rfl⟩
  ·rw[if_pos e1]
   simp only[e1,if_false,ne_eq,not_false_eq_true,forall_const]at J
   simp(maxDischargeDepth:=6) only[qA,seval,Tk,r.lenI,r.froz1,I.froz1,K.froz1,C.froz1,D.froz1,E.froz1,r.kept,EF,Dq,Y,JG,H,J]
   exact⟨_,rfl⟩
 ·rw[if_pos Z]
  generalize mz c=e at*
  simp(maxDischargeDepth:=6) only[qA,seval,Tk,r.froz1,I.froz1,K.froz1,C.froz1,D.froz1,E.froz1,EF,Dq,Z]
  exact⟨_,rfl⟩
end
end Go.Proofs.YtblcbheipjeoeaaGreat
