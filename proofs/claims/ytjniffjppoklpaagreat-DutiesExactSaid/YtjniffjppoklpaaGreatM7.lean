/- Walks of functions of the program and of the reference, and their plain laws, part 7. Conditions: the theorems' own. -/
import Derived.Test.YtjniffjppoklpaaGreatM6
import Derived.KernelRfl
set_option maxRecDepth 100000
set_option linter.unusedSimpArgs false
set_option linter.unusedVariables false
set_option maxHeartbeats 16000000
namespace Go.Proofs.YtjniffjppoklpaaGreat
open Go Go.Ev
section
variable(c:Ct)(a7 a8 a9 a10 iH iG:T)(hT:uF c a7 a8 a9 a10 iH iG)(hS:AJ c)
include hT hS
theorem aDV(fr:Fr)(lh:iL iy)(sh:List iy)(U:an fr 1= .ptr .L 1 1 0)(V:an fr 3= .i .i64 0)(D:a6 lh 1=⟨1,.cells (jb c a7 a8 a9 a10 iH iG) 0 true⟩):
  vw pE 112 zF fr lh sh 0 2 (Sb [] c.li) (fun E H=>a6 E 1=⟨1,.cells (jb c a7 a8 a9 a10 iH iG) 0 true⟩∧H=sh):=by
 obtain⟨W,r,A8⟩:=hT.h11
 have hlen:=hS.s11
 refine jW Hg (fun k f E H=>an f 3= .i .i64 (k:Int)∧a6 E 1=⟨1,.cells (jb c a7 a8 a9 a10 iH iG) 0 true⟩∧H=sh∧Sb [] c.li=Sb ((c.li.map Li.nm).take k) (c.li.drop k)) c.li.length ⟨V,D,rfl,rfl⟩ ?_ ?_
 ·rintro k f E _ I F ⟨J,D,rfl,K⟩
  rw[List.drop_eq_getElem_cons I,Sb]at K
  obtain⟨rr,X⟩:=R9 r A8 k I
  have Kn:=j3 (tZ c.li[k].nm)
  obtain⟨me,Y,N⟩:=abA c.li[k].me
  have Z:=j3 (ti c.li[k].mo 0 599999)
  have w2:=j3 (ti c.li[k].da 1 31)
  obtain⟨G,hG⟩: ∃G,(a6 E 4).g+1=G:=⟨_,rfl⟩
  have O:=aDS c.li iH W r A8 hlen k (by omega) c.li[k].nm c a7 a8 a9 a10 iG [.s c.li[k].me,.i .i64 c.li[k].mo,.i .i64 c.li[k].da] G
  have hw:=iZ (k:=k) (by omega)
  have iU:(k:Int)<c.li.length:=by omega
  have mI:(c.li.map Li.nm).take (k+1)=(c.li.map Li.nm).take k++ [c.li[k].nm]:=by simp[List.take_succ_eq_append_getElem,I]
  unfold jb at D O ⊢
  simp only[qB,seval,gd,zF,Hf,F,U,J,D,r.lenI,iU,X,hG,Kn,LA,O,N,asH,Z,w2,Hm,hw]
  clear F O
  grind
 ·rintro f E _ F ⟨J,D,rfl,K⟩
  unfold jb at D ⊢
  simp only[qB,seval,gd,zF,F,U,J,D,r.lenI,Int.lt_irrefl,K,List.drop_length,Sb]
theorem aDW(fr:Fr)(lh:iL iy)(sh:List iy)(W:an fr 1= .ptr .L 1 1 0)(X:an fr 6= .i .i64 0)(D:a6 lh 1=⟨1,.cells (jb c a7 a8 a9 a10 iH iG) 0 true⟩):
  vw pE 112 zD fr lh sh 4 2 (Vh (c.li.map Li.nm) c.fs) (fun E H=>H=sh):=by
 obtain⟨Y,I,A8⟩:=hT.h11
 obtain⟨Z,r,CV⟩:=hT.h12
 have J:=hS.s11
 have hlen:=hS.s12
 refine jW Sg (fun k f E H=>an f 6= .i .i64 (k:Int)∧a6 E 1=⟨1,.cells (jb c a7 a8 a9 a10 iH iG) 0 true⟩∧H=sh∧Vh (c.li.map Li.nm) c.fs=Vh (c.li.map Li.nm++(c.fs.map Of.nm).take k) (c.fs.drop k)) c.fs.length ⟨X,D,rfl,by simp⟩ ?_ ?_
 ·rintro k f E _ K F ⟨N,D,rfl,O⟩
  rw[List.drop_eq_getElem_cons K,Vh]at O
  obtain⟨rr,iW⟩:=abv r CV k K
  have Kn:=j3 (tZ c.fs[k].nm)
  have w1:=j3 (ti c.fs[k].da 1 31)
  have w2:=j3 (ti c.fs[k].ct 1 c.fs[k].da)
  obtain⟨G,hG⟩: ∃G,(a6 E 7).g+1=G:=⟨_,rfl⟩
  have U:=aDT c.li iH Y I A8 J c.fs[k].nm c a7 a8 a9 a10 iG [.i .i64 c.fs[k].ct,.i .i64 c.fs[k].da] G
  have V:=aDU c.fs iG Z r CV hlen k (by omega) c.fs[k].nm c a7 a8 a9 a10 iH [.i .i64 c.fs[k].ct,.i .i64 c.fs[k].da] G
  have hw:=iZ (k:=k) (by omega)
  have iU:(k:Int)<c.fs.length:=by omega
  have mI:(c.fs.map Of.nm).take (k+1)=(c.fs.map Of.nm).take k++ [c.fs[k].nm]:=by simp[List.take_succ_eq_append_getElem,K]
  unfold jb at D U V ⊢
  simp only[qB,seval,gd,zD,He,Hd,F,W,N,D,r.lenI,iU,iW,hG,Kn,LA,U,V,w1,w2,Hm,hw]
  clear F U V
  grind
 ·rintro f E _ F ⟨N,D,rfl,O⟩
  unfold jb at D
  simp only[qB,seval,gd,zD,F,W,N,D,r.lenI,Int.lt_irrefl,O,List.drop_length,Vh]
theorem agi:be pE 104 [.agg (jb c a7 a8 a9 a10 iH iG)] []=some (.i .i64 (abx c),[]):=by
 have r:=aDV c a7 a8 a9 a10 iH iG hT hS
 have D:=aDW c a7 a8 a9 a10 iH iG hT hS
 rw[iD agx (by simp[VM])]
 unfold abx
 unfold jb at r D ⊢
 simp(maxDischargeDepth:=6) only[qB,seval,VM,Hg,r,D]
 grind
end
theorem aDY(l:Cs)(a:T)(I:List T)(J:iJ a l.length I)(K:lB l I)(hlen:l.length≤pG)(n:Nat)(U:n<l.length)(c:Ct)(a8 a9 a10 iH iG:T)(fr:Fr)(lh:iL iy)(sh:List iy)
  (V:an fr 1= .ptr .L 1 1 0) (g3:an fr 3= .i .i64 (n:Int)) (W:an fr 4= .i .i64 0) (N:a6 lh 1=⟨1,.cells (jb c a a8 a9 a10 iH iG) 0 true⟩):
  vw pE 235 Ep fr lh sh 2 2 (if l[n].1∈(l.map Prod.fst).take n then 7 else 0) (fun D E=>D=lh∧E=sh):=by
 refine jW Lq (fun j f D E=>an f 4= .i .i64 (j:Int)∧D=lh∧E=sh∧l[n].1∉(l.map Prod.fst).take j) n ⟨W,rfl,rfl,by simp⟩ ?_ ?_
 ·rintro j f _ _ hj r ⟨F,rfl,rfl,O⟩
  obtain⟨b,cb,rr,X,lE,uE,hb⟩:=mH J K j (by omega)
  obtain⟨b',Y,Z,lN,_⟩:=mH J K n U
  have hw:=iZ (k:=j) (by omega)
  have H:(j:Int)<n:=by omega
  unfold jb at N
  simp only[qB,seval,gd,Ep,r,V,g3,F,H,X,lN,hw,N]
  clear r
  grind [List.mem_take_iff_getElem]
 ·rintro f _ _ r ⟨F,rfl,rfl,O⟩
  simp only[qB,seval,gd,Ep,r,g3,F,Int.lt_irrefl,O]
theorem aDZ(l:List Ru)(a:T)(I:List T)(O:iJ a l.length I)(U:iK U6 l I)(hlen:l.length≤pG)(n:Nat)(hn:n<l.length)(c:Ct)(a7 a9 a10 iH iG:T)(V:List T)(G7:Nat)(fr:Fr)(lh:iL iy)(sh:List iy)(W:an fr 1= .ptr .L 1 1 0)(J:an fr 6= .i .i64 (n:Int))(X:an fr 7= .ptr .L 7 G7 0)(Y:an fr 8= .i .i64 0)(K:a6 lh 1=⟨1,.cells (jb c a7 a a9 a10 iH iG) 0 true⟩)(Z:a6 lh 7=⟨G7,.cells (.i .i64 l[n].sc:: .s l[n].nm::V) 0 true⟩):
  vw pE 235 En fr lh sh 6 2 (if KB l[n]∈(l.map KB).take n then 7 else 0) (fun D E=>D=lh∧E=sh):=by
 refine jW Ln (fun j f D E=>an f 8= .i .i64 (j:Int)∧D=lh∧E=sh∧KB l[n]∉(l.map KB).take j) n ⟨Y,rfl,rfl,by simp⟩ ?_ ?_
 ·rintro j f _ _ hj r ⟨F,rfl,rfl,N⟩
  obtain⟨b,cb,rr,iW,lE,hb⟩:=CZ O U j (by omega)
  have hw:=iZ (k:=j) (by omega)
  have H:(j:Int)<n:=by omega
  unfold jb at K
  simp only[qB,seval,gd,En,r,W,J,X,F,H,iW,hw,K,Z]
  clear r
  grind [List.mem_take_iff_getElem,KB]
 ·rintro f _ _ r ⟨F,rfl,rfl,N⟩
  simp only[qB,seval,gd,En,r,J,F,Int.lt_irrefl,N]
section
variable(c:Ct)(a7 a8 a9 a10 iH iG:T)(hT:uF c a7 a8 a9 a10 iH iG)(hS:AJ c)
include hT hS
theorem aD0(fr:Fr)(lh:iL iy)(sh:List iy)(N:an fr 1= .ptr .L 1 1 0)(hi:an fr 3= .i .i64 0)(r:a6 lh 1=⟨1,.cells (jb c a7 a8 a9 a10 iH iG) 0 true⟩):
  vw pE 235 Er fr lh sh 0 2 (Sa [] c.cs) (fun D H=>a6 D 1=⟨1,.cells (jb c a7 a8 a9 a10 iH iG) 0 true⟩∧H=sh):=by
 obtain⟨V,F,O⟩:=hT.h7
 have hlen:=hS.s7.2
 refine jW Lr (fun k f D H=>an f 3= .i .i64 (k:Int)∧a6 D 1=⟨1,.cells (jb c a7 a8 a9 a10 iH iG) 0 true⟩∧H=sh∧Sa [] c.cs=Sa ((c.cs.map Prod.fst).take k) (c.cs.drop k)) c.cs.length ⟨hi,r,rfl,rfl⟩ ?_ ?_
 ·rintro k f D _ E I ⟨J,r,rfl,K⟩
  rw[List.drop_eq_getElem_cons E,Sa]at K
  obtain⟨b,cb,rr,W,X,uE,Y⟩:=mH F O k E
  have Kn:=j3 (tZ c.cs[k].1)
  have Qc:=rH c.cs[k].2 _ Y (hS.s7.1 c.cs[k] (List.getElem_mem E)).2
  have U:=aDY c.cs a7 V F O hlen k E c a8 a9 a10 iH iG
  have Z:=iZ (k:=k) (by omega)
  have iU:(k:Int)<c.cs.length:=by omega
  have mI:(c.cs.map Prod.fst).take (k+1)=(c.cs.map Prod.fst).take k++ [c.cs[k].1]:=by simp[List.take_succ_eq_append_getElem,E]
  unfold jb at r U ⊢
  simp only[qB,seval,gd,Er,Lq,I,N,J,r,F.lenI,iU,W,Kn,LA,U,X.froz1,Qc,Cu,Z]
  grind
 ·rintro f D _ I ⟨J,r,rfl,K⟩
  unfold jb at r ⊢
  simp only[qB,seval,gd,Er,I,N,J,r,F.lenI,Int.lt_irrefl,K,List.drop_length,Sa]
theorem aD1(fr:Fr)(lh:iL iy)(sh:List iy)(N:an fr 1= .ptr .L 1 1 0)(hi:an fr 6= .i .i64 0)(r:a6 lh 1=⟨1,.cells (jb c a7 a8 a9 a10 iH iG) 0 true⟩):
  vw pE 235 Eo fr lh sh 4 2 (N6 [] c.ru) (fun D H=>a6 D 1=⟨1,.cells (jb c a7 a8 a9 a10 iH iG) 0 true⟩∧H=sh):=by
 obtain⟨V,F,O⟩:=hT.h8
 have hlen:=hS.s8.2
 refine jW Lo (fun k f D H=>an f 6= .i .i64 (k:Int)∧a6 D 1=⟨1,.cells (jb c a7 a8 a9 a10 iH iG) 0 true⟩∧H=sh∧N6 [] c.ru=N6 ((c.ru.map KB).take k) (c.ru.drop k)) c.ru.length ⟨hi,r,rfl,rfl⟩ ?_ ?_
 ·rintro k f D _ E I ⟨J,r,rfl,K⟩
  rw[List.drop_eq_getElem_cons E,N6]at K
  obtain⟨b,cb,rr,W,X,Y⟩:=CZ F O k E
  have Kn:=j3 (tZ c.ru[k].nm)
  have Z:=j3 (ti c.ru[k].sc 1 3)
  have Qc:=rH c.ru[k].x _ Y (hS.s8.1 c.ru[k] (List.getElem_mem E)).2
  obtain⟨G,hG⟩: ∃G,(a6 D 7).g+1=G:=⟨_,rfl⟩
  have U:=aDZ c.ru a8 V F O hlen k E c a7 a9 a10 iH iG [.i .i64 c.ru[k].x.op,.i .i64 c.ru[k].x.num,.s c.ru[k].x.name,b] G
  have hw:=iZ (k:=k) (by omega)
  have iU:(k:Int)<c.ru.length:=by omega
  have mI:(c.ru.map KB).take (k+1)=(c.ru.map KB).take k++ [(c.ru[k].sc,c.ru[k].nm)]:=by simp[List.take_succ_eq_append_getElem,E,KB]
  unfold jb at r U ⊢
  simp only[qB,seval,gd,Eo,Ln,I,N,J,r,F.lenI,iU,W,hG,Kn,LA,Z,Hm,U,X.froz1,Qc,Cu,hw]
  grind [KB]
 ·rintro f D _ I ⟨J,r,rfl,K⟩
  unfold jb at r ⊢
  simp only[qB,seval,gd,Eo,I,N,J,r,F.lenI,Int.lt_irrefl,K,List.drop_length,N6]
theorem aD2(fr:Fr)(lh:iL iy)(sh:List iy)(N:an fr 1= .ptr .L 1 1 0)(hi:an fr 10= .i .i64 0)(r:a6 lh 1=⟨1,.cells (jb c a7 a8 a9 a10 iH iG) 0 true⟩):
  vw pE 235 Em fr lh sh 8 2 (Pg c.co) (fun D F=>a6 D 1=⟨1,.cells (jb c a7 a8 a9 a10 iH iG) 0 true⟩∧F=sh):=by
 obtain⟨c9,H,O⟩:=hT.h9
 have hlen:=hS.s9.2
 refine jW Lm (fun k f D F=>an f 10= .i .i64 (k:Int)∧a6 D 1=⟨1,.cells (jb c a7 a8 a9 a10 iH iG) 0 true⟩∧F=sh∧Pg c.co=Pg (c.co.drop k)) c.co.length ⟨hi,r,rfl,rfl⟩ ?_ ?_
 ·rintro k f D _ I E ⟨J,r,rfl,K⟩
  rw[List.drop_eq_getElem_cons I,Pg]at K
  obtain⟨b,cb,rr,U,V,W⟩:=F1 H O k I
  have X:=j3 (ti c.co[k].sc 1 3)
  have Qc:=rH c.co[k].x _ W (hS.s9.1 c.co[k] (List.getElem_mem I)).2
  have Y:=iZ (k:=k) (by omega)
  have Z:(k:Int)<c.co.length:=by omega
  unfold jb at r ⊢
  simp only[qB,seval,gd,Em,E,N,J,r,H.lenI,Z,U,X,Hm,V.froz1,Qc,Cu,Y]
  clear E
  grind
 ·rintro f D _ E ⟨J,r,rfl,K⟩
  unfold jb at r ⊢
  simp only[qB,seval,gd,Em,E,N,J,r,H.lenI,Int.lt_irrefl,K,List.drop_length,Pg]
theorem aD3(fr:Fr)(lh:iL iy)(sh:List iy)(N:an fr 1= .ptr .L 1 1 0)(hi:an fr 12= .i .i64 0)(r:a6 lh 1=⟨1,.cells (jb c a7 a8 a9 a10 iH iG) 0 true⟩):
  vw pE 235 El fr lh sh 10 2 (Ph c.cr) (fun E H=>a6 E 1=⟨1,.cells (jb c a7 a8 a9 a10 iH iG) 0 true⟩∧H=sh):=by
 obtain⟨Z,D,O⟩:=hT.h10
 have hlen:=hS.s10.2
 refine jW Ll (fun k f E H=>an f 12= .i .i64 (k:Int)∧a6 E 1=⟨1,.cells (jb c a7 a8 a9 a10 iH iG) 0 true⟩∧H=sh∧Ph c.cr=Ph (c.cr.drop k)) c.cr.length ⟨hi,r,rfl,rfl⟩ ?_ ?_
 ·rintro k f E _ I F ⟨J,r,rfl,K⟩
  rw[List.drop_eq_getElem_cons I,Ph]at K
  obtain⟨b,cb,rr,U,V,uE,W⟩:=nY D O k I
  have Qc:=rH c.cr[k] _ W (hS.s10.1 c.cr[k] (List.getElem_mem I)).2
  have X:=iZ (k:=k) (by omega)
  have Y:(k:Int)<c.cr.length:=by omega
  unfold jb at r ⊢
  simp only[qB,seval,gd,El,F,N,J,r,D.lenI,Y,U,V.froz1,Qc,Cu,X]
  clear F
  grind
 ·rintro f E _ F ⟨J,r,rfl,K⟩
  unfold jb at r ⊢
  simp only[qB,seval,gd,El,F,N,J,r,D.lenI,Int.lt_irrefl,K,List.drop_length,Ph]
end
section
variable(c:Ct)(a7 a8 a9 a10 iH iG:T)(hT:uF c a7 a8 a9 a10 iH iG)(hS:AJ c)
include hT hS
theorem abC:be pE 65 [.agg (jb c a7 a8 a9 a10 iH iG)] []=some (.i .i64 (oQ c),[]):=by
 have F:=agi c a7 a8 a9 a10 iH iG hT hS
 have H:=aD0 c a7 a8 a9 a10 iH iG hT hS
 have I:=aD1 c a7 a8 a9 a10 iH iG hT hS
 have J:=aD2 c a7 a8 a9 a10 iH iG hT hS
 have K:=aD3 c a7 a8 a9 a10 iH iG hT hS
 obtain⟨⟨V,N,W⟩,⟨X,O,Y⟩,⟨Z,U,j9⟩,⟨tE,r,yx⟩,⟨vN,D,A8⟩,⟨vZ,E,CV⟩⟩:=hT
 have w:=fun n lo hi=>j3 (ti n lo hi)
 unfold jb at H I J K F ⊢
 rw[iD ajV (by simp[c65])]
 unfold oQ qY th
 simp(maxDischargeDepth:=6) only[qB,seval,c65,Ll,Lm,Lo,Lr,N.lenI,O.lenI,U.lenI,r.lenI,D.lenI,E.lenI,N.froz1,O.froz1,U.froz1,r.froz1,D.froz1,E.froz1,w,Hm,H,I,J,K,F,asm]
 clear H I J K F w hS
 grind (splits:=40)
end
def Vi(s:List Nat):Prop:=lu 1 s≠0∨lu 2 s≠0∨lu 3 s≠0
instance (s:List Nat):Decidable (Vi s):=by unfold Vi;infer_instance
def UX(l:Cs):Nat→Cs→Int
 |_,[]=>0
 |k,c::r=>if Vi c.1 then 7 else if(yi l k).2≠0 then(yi l k).2 else UX l (k+1) r
def Pk(l:Cs)(scope:Int)(x:Ex)(r:Int):Int:=if(ub l scope x).2=0∧(ub l scope x).1≠r then 9 else(ub l scope x).2
def Pl(l:Cs):List Ru→Int
 | []=>0
 |u::r=>if Pk l u.sc u.x 4≠0 then Pk l u.sc u.x 4 else Pl l r
def Pm(l:Cs):List Co→Int
 | []=>0
 |u::r=>if Pk l u.sc u.x 1≠0 then Pk l u.sc u.x 1 else Pm l r
def Q7(l:Cs):List Ex→Int
 | []=>0
 |x::r=>if Pk l 1 x 2≠0 then Pk l 1 x 2 else Q7 l r
def nL(c:Ct):Int:=if oQ c≠0 then oQ c else if UX c.cs 0 c.cs≠0 then UX c.cs 0 c.cs else if Pl c.cs c.ru≠0 then Pl c.cs c.ru else if Pm c.cs c.co≠0 then Pm c.cs c.co else Q7 c.cs c.cr
def xg(l:Cs)(lT:T)(sh:List iy):Prop:= ∃kn,sh=zt lT (jP l l.length) kn∧AZ l kn
def agj(s:List Nat)(j:Nat):Prop:= ∀i:Nat,i<j→lu ((i:Int)+1) s=0
theorem aD4(s:List Nat)(J:List T)(G:Nat)(fr:Fr)(lh:iL iy)(sh:List iy)(K:an fr 6= .ptr .L 6 G 0)(N:an fr 7= .i .i64 1)(O:a6 lh 6=⟨G,.cells (.s s::J) 0 true⟩):
  vw pE 115 D3 fr lh sh 2 2 (if Vi s then 7 else 0) (fun E F=>E=lh∧F=sh):=by
 refine jW K5 (fun j f E F=>an f 7= .i .i64 ((j:Int)+1)∧E=lh∧F=sh∧agj s j) 3 ⟨N,rfl,rfl,fun i h=>by omega⟩ ?_ ?_
 ·rintro j f _ _ W r ⟨D,rfl,rfl,t⟩
  have H:=Mv ((j:Int)+1) s
  unfold ua at H
  have I:(j:Int)+1≤3:=by omega
  have U:wr .i64 ((j:Int)+1+1)=((j+1:Nat):Int)+1:=jE (by omega)
  have X:j=0∨j=1∨j=2:=by omega
  by_cases V:lu ((j:Int)+1) s=0 <;> simp only[qB,seval,gd,D3,r,K,D,O,I,U,H,V,WJ] <;> clear r H <;> grind [agj,Vi]
 ·rintro f _ _ r ⟨D,rfl,rfl,t⟩
  rw[show((3:Nat):Int)+1=4 from rfl]at D
  have a:=t 0 (by decide)
  have b:=t 1 (by decide)
  have c:=t 2 (by decide)
  simp only[qB,seval,gd,D3,r,D]
  unfold Vi
  grind
section
variable(l:Cs)(lT:T)(cl:List T)(hl:iJ lT l.length cl)(ls:lB l cl)(hlen:l.length≤pG)(sX:ZQ l)
include hl ls hlen sX
theorem Ko(scope r:Int)(x:Ex)(cs:List T)(I:mE x cs)(J:N8 x)(sh:List iy)(U:xg l lT sh): ∃K,be pE 56 [.ptr .S 2 1 0,.i .i64 scope,.i .i64 (l.length:Int),.agg cs,.i .i64 r] sh=some (.i .i64 (Pk l scope x r),K)∧xg l lT K:=by
 obtain⟨kn,rfl,V⟩:=U
 obtain⟨E,D,F,_⟩:=aba l lT cl hl ls hlen l.length (Nat.le_refl _) (fun j W=>abb l lT cl hl ls hlen sX j W) scope x cs I J.1 J.2 kn V
 have X:UN l l.length scope x=ub l scope x:=by unfold UN ub J8;rw[List.take_length]
 rw[X]at D
 obtain⟨a,cc,rfl,H,zr⟩:=I.cells
 rw[iD arJ (by simp[c56])]
 unfold Pk
 generalize ub l scope x=q at*
 obtain⟨Y,Z⟩:=q
 simp only at D ⊢
 by_cases N:Z=0
 ·subst N
  by_cases O:Y=r
  ·subst O
   simp only[qA,seval,kP,c56,D,WM,H.kept1]
   exact⟨_,rfl,E,rfl,F⟩
  ·simp only[qA,seval,kP,c56,D,WM,H.kept1,O]
   exact⟨_,rfl,E,rfl,F⟩
 ·simp only[qA,seval,kP,c56,D,WM,H.kept1,N]
  exact⟨_,rfl,E,rfl,F⟩
end
section
variable(c:Ct)(a7 a8 a9 a10 iH iG:T)(hT:uF c a7 a8 a9 a10 iH iG)(hS:AJ c)
include hT hS
theorem aD5(H:iy)(fr:Fr)(lh:iL iy)(sh:List iy)(Z:xg c.cs a7 sh)
  (h4:an fr 4= .ptr .S 2 1 0) (I:an fr 31=a7) (DH:an fr 32= .i .i64 (c.cs.length:Int)) (FV:an fr 33= .i .i64 0) (D:a6 lh 1=H):
  vw pE 115 D4 fr lh sh 0 2 (UX c.cs 0 c.cs) (fun r E=>a6 r 1=H∧xg c.cs a7 E):=by
 obtain⟨c7,O,U⟩:=hT.h7
 have hlen:=hS.s7.2
 refine jW K6 (fun k f r E=>an f 33= .i .i64 (k:Int)∧a6 r 1=H∧xg c.cs a7 E∧UX c.cs 0 c.cs=UX c.cs k (c.cs.drop k)) c.cs.length ⟨FV,D,Z,rfl⟩ ?_ ?_
 ·rintro k f r _ J F ⟨K,D,⟨kn,rfl,V⟩,N⟩
  have iU:(k:Int)<c.cs.length:=by omega
  have hw:=iZ (k:=k) (by omega)
  rw[List.drop_eq_getElem_cons J,UX]at N
  obtain⟨b,cb,rr,iW,lE,uE,hb⟩:=mH O U k J
  obtain⟨W,X,pL,_⟩:=abb c.cs a7 c7 O U hlen hS.s7.1 k J kn V
  obtain⟨G,hG⟩: ∃G,(a6 r 6).g+1=G:=⟨_,rfl⟩
  have Y:=aD4 c.cs[k].1 [.i .i64 c.cs[k].2.op,.i .i64 c.cs[k].2.num,.s c.cs[k].2.name,b] G
  have h1:xg c.cs a7 (zt a7 (jP c.cs c.cs.length) kn):=⟨kn,rfl,V⟩
  have h2:xg c.cs a7 (zt a7 (jP c.cs c.cs.length) W):=⟨W,rfl,pL⟩
  simp only[qB,seval,gd,kP,D4,F,h4,I,DH,K,D,iU,iW,hw,hG,Y,K5,X,arI,h1,h2]
  clear F Y X
  grind
 ·rintro f r E F ⟨K,D,h,N⟩
  simp only[qB,seval,gd,D4,F,DH,K,D,h,Int.lt_irrefl,N,List.drop_length,UX]
end
section
variable(c:Ct)(a7 a8 a9 a10 iH iG:T)(hT:uF c a7 a8 a9 a10 iH iG)(hS:AJ c)
include hT hS
theorem aD6(H:iy)(fr:Fr)(lh:iL iy)(sh:List iy)(U:xg c.cs a7 sh)
  (V:an fr 4= .ptr .S 2 1 0) (I:an fr 12= .i .i64 (c.cs.length:Int)) (hs:an fr 65=a8) (hl:an fr 66= .i .i64 (c.ru.length:Int)) (hi:an fr 67= .i .i64 0) (D:a6 lh 1=H):
  vw pE 115 D2 fr lh sh 4 2 (Pl c.cs c.ru) (fun E r=>a6 E 1=H∧xg c.cs a7 r):=by
 obtain⟨W,X,Y⟩:=hT.h7
 obtain⟨c8,Z,j8⟩:=hT.h8
 have hlen:=hS.s8.2
 refine jW K4 (fun k f E r=>an f 67= .i .i64 (k:Int)∧a6 E 1=H∧xg c.cs a7 r∧Pl c.cs c.ru=Pl c.cs (c.ru.drop k)) c.ru.length ⟨hi,D,U,rfl⟩ ?_ ?_
 ·rintro k f E r J F ⟨K,D,rP,N⟩
  have iU:(k:Int)<c.ru.length:=by omega
  have hw:=iZ (k:=k) (by omega)
  rw[List.drop_eq_getElem_cons J,Pl]at N
  obtain⟨b,cb,rr,iW,lE,hb⟩:=CZ Z j8 k J
  obtain⟨sh2,O,A4⟩:=Ko c.cs a7 W X Y hS.s7.2 hS.s7.1 c.ru[k].sc 4 c.ru[k].x _ hb (hS.s8.1 c.ru[k] (List.getElem_mem J)) r rP
  simp only[qB,seval,gd,kP,D2,F,V,I,hs,hl,K,D,iU,iW,hw,lE.kept1,O,ajP,A4]
  clear F O
  grind
 ·rintro f E r F ⟨K,D,h,N⟩
  simp only[qB,seval,gd,D2,F,hl,K,D,h,Int.lt_irrefl,N,List.drop_length,Pl]
theorem aD7(H:iy)(fr:Fr)(lh:iL iy)(sh:List iy)(U:xg c.cs a7 sh)
  (V:an fr 4= .ptr .S 2 1 0) (I:an fr 12= .i .i64 (c.cs.length:Int)) (hs:an fr 83=a9) (hl:an fr 84= .i .i64 (c.co.length:Int)) (hi:an fr 85= .i .i64 0) (D:a6 lh 1=H):
  vw pE 115 D1 fr lh sh 6 2 (Pm c.cs c.co) (fun E r=>a6 E 1=H∧xg c.cs a7 r):=by
 obtain⟨W,X,Y⟩:=hT.h7
 obtain⟨c8,Z,j8⟩:=hT.h9
 have hlen:=hS.s9.2
 refine jW K3 (fun k f E r=>an f 85= .i .i64 (k:Int)∧a6 E 1=H∧xg c.cs a7 r∧Pm c.cs c.co=Pm c.cs (c.co.drop k)) c.co.length ⟨hi,D,U,rfl⟩ ?_ ?_
 ·rintro k f E r J F ⟨K,D,rP,N⟩
  have iU:(k:Int)<c.co.length:=by omega
  have hw:=iZ (k:=k) (by omega)
  rw[List.drop_eq_getElem_cons J,Pm]at N
  obtain⟨b,cb,rr,iW,lE,hb⟩:=F1 Z j8 k J
  obtain⟨sh2,O,A4⟩:=Ko c.cs a7 W X Y hS.s7.2 hS.s7.1 c.co[k].sc 1 c.co[k].x _ hb (hS.s9.1 c.co[k] (List.getElem_mem J)) r rP
  simp only[qB,seval,gd,kP,D1,F,V,I,hs,hl,K,D,iU,iW,hw,lE.kept1,O,ajP,A4]
  clear F O
  grind
 ·rintro f E r F ⟨K,D,h,N⟩
  simp only[qB,seval,gd,D1,F,hl,K,D,h,Int.lt_irrefl,N,List.drop_length,Pm]
theorem aD8(H:iy)(fr:Fr)(lh:iL iy)(sh:List iy)(U:xg c.cs a7 sh)
  (V:an fr 4= .ptr .S 2 1 0) (I:an fr 12= .i .i64 (c.cs.length:Int)) (hs:an fr 101=a10) (hl:an fr 102= .i .i64 (c.cr.length:Int)) (hi:an fr 103= .i .i64 0) (D:a6 lh 1=H):
  vw pE 115 D0 fr lh sh 8 2 (Q7 c.cs c.cr) (fun E r=>a6 E 1=H∧xg c.cs a7 r):=by
 obtain⟨W,X,Y⟩:=hT.h7
 obtain⟨c8,Z,j8⟩:=hT.h10
 have hlen:=hS.s10.2
 refine jW K2 (fun k f E r=>an f 103= .i .i64 (k:Int)∧a6 E 1=H∧xg c.cs a7 r∧Q7 c.cs c.cr=Q7 c.cs (c.cr.drop k)) c.cr.length ⟨hi,D,U,rfl⟩ ?_ ?_
 ·rintro k f E r J F ⟨K,D,rP,N⟩
  have iU:(k:Int)<c.cr.length:=by omega
  have hw:=iZ (k:=k) (by omega)
  rw[List.drop_eq_getElem_cons J,Q7]at N
  obtain⟨b,cb,rr,iW,lE,uE,hb⟩:=nY Z j8 k J
  obtain⟨sh2,O,A4⟩:=Ko c.cs a7 W X Y hS.s7.2 hS.s7.1 1 2 c.cr[k] _ hb (hS.s10.1 c.cr[k] (List.getElem_mem J)) r rP
  simp only[qB,seval,gd,kP,D0,F,V,I,hs,hl,K,D,iU,iW,hw,lE.kept1,O,ajP,A4]
  clear F O
  grind
 ·rintro f E r F ⟨K,D,h,N⟩
  simp only[qB,seval,gd,D0,F,hl,K,D,h,Int.lt_irrefl,N,List.drop_length,Q7]
theorem Q5: ∃s,be pE 31 [.agg (jb c a7 a8 a9 a10 iH iG)] []=some (.i .i64 (nL c),s):=by
 have U8:=abB c a7 a8 a9 a10 iH iG hT hS
 have E:=aD5 c a7 a8 a9 a10 iH iG hT hS ⟨1,.cells (jb c a7 a8 a9 a10 iH iG) 0 true⟩
 have F:=aD6 c a7 a8 a9 a10 iH iG hT hS ⟨1,.cells (jb c a7 a8 a9 a10 iH iG) 0 true⟩
 have H:=aD7 c a7 a8 a9 a10 iH iG hT hS ⟨1,.cells (jb c a7 a8 a9 a10 iH iG) 0 true⟩
 have I:=aD8 c a7 a8 a9 a10 iH iG hT hS ⟨1,.cells (jb c a7 a8 a9 a10 iH iG) 0 true⟩
 obtain⟨⟨W,D,X⟩,⟨Y,O,Z⟩,⟨c9,U,j9⟩,⟨tE,r,yx⟩,⟨vN,J,A8⟩,⟨vZ,K,CV⟩⟩:=hT
 have V:=am3 c.cs a7 W D X hS.s7.2
 have N:xg c.cs a7 (zt a7 (jP c.cs c.cs.length) []):=⟨[],rfl,fun i t h=>by cases h⟩
 unfold jb at E F H I U8 ⊢
 rw[iD ajF (by simp[c31])]
 unfold nL
 simp(maxDischargeDepth:=8) only[qB,seval,kP,c31,K2,K3,K4,K6,D.lenI,O.lenI,U.lenI,r.lenI,D.kept,D.froz1,O.froz1,U.froz1,r.froz1,J.froz1,K.froz1,U8,arE,V,aAl,N,E,F,H,I,aBR,Fy]
 clear E F H I U8 V
 grind (splits:=30)
end
theorem aD9(s:List Nat)(fr:Fr)(lh:iL iy)(sh:List iy)(J:an fr 0= .s s)(g3:an fr 3= .i .i64 1):
  Zv pE 18 Et fr lh sh 0 2 (¬Vi s) (.b true) (fun E F=>E=lh∧F=sh):=by
 refine sd VA (by simp[jg]) (fun j f E F=>an f 3= .i .i64 ((j:Int)+1)∧E=lh∧F=sh∧agj s j) 3 ⟨g3,rfl,rfl,fun i h=>by omega⟩ ?_ ?_
 ·rintro j f _ _ O r ⟨D,rfl,rfl,t⟩
  have H:=AG ((j:Int)+1) s
  unfold ua at H
  have I:(j:Int)+1≤3:=by omega
  have K:wr .i64 ((j:Int)+1+1)=((j+1:Nat):Int)+1:=jE (by omega)
  have U:j=0∨j=1∨j=2:=by omega
  by_cases N:lu ((j:Int)+1) s=0 <;> simp only[qB,seval,gd,Et,r,J,D,I,K,H,N,yj] <;> clear r H <;> grind [agj,Vi]
 ·rintro f _ _ r ⟨D,rfl,rfl,t⟩
  rw[show((3:Nat):Int)+1=4 from rfl]at D
  have a:=t 0 (by decide)
  have b:=t 1 (by decide)
  have c:=t 2 (by decide)
  simp only[qB,seval,gd,Et,r,D]
  grind [Vi]
theorem UY(s:List Nat):be pE 66 [.s s] []=some (.b (decide (Vi s)),[]):=by
 have r:=aD9 s
 rw[iD arR (by simp[c66])]
 by_cases h:Vi s <;> simp only[qB,seval,c66,r,h]
section
variable(c:Ct)(a7 a8 a9 a10 iH iG:T)(hT:uF c a7 a8 a9 a10 iH iG)(hS:AJ c)
include hT hS
theorem Kp(scope r:Int)(x:Ex)(cs:List T)(D:mE x cs)(E:N8 x):be pE 68 [.agg (jb c a7 a8 a9 a10 iH iG),.i .i64 scope,.agg cs,.i .i64 r] []=some (.i .i64 (Pk c.cs scope x r),[]):=by
 obtain⟨H,F,I⟩:=hT.h7
 have J:=Gi c.cs a7 H F I hS.s7.2 hS.s7.1 scope x cs D E.1 E.2
 obtain⟨a,N,rfl,K,O⟩:=D.cells
 rw[iD ajY (by simp[c68])]
 unfold Pk jb
 simp only[qB,seval,c68,J,acG,K.froz1,F.froz]
 grind
theorem aEa(fr:Fr)(lh:iL iy)(sh:List iy)(V:an fr 1= .ptr .L 1 1 0)(hi:an fr 4= .i .i64 0)(r:a6 lh 1=⟨1,.cells (jb c a7 a8 a9 a10 iH iG) 0 true⟩):
  vw pE 114 Eb fr lh sh 0 2 (UX c.cs 0 c.cs) (fun E H=>a6 E 1=⟨1,.cells (jb c a7 a8 a9 a10 iH iG) 0 true⟩∧H=sh):=by
 obtain⟨I,J,W⟩:=hT.h7
 have hlen:=hS.s7.2
 have sX:=hS.s7.1
 refine jW Ld (fun k f E H=>an f 4= .i .i64 (k:Int)∧a6 E 1=⟨1,.cells (jb c a7 a8 a9 a10 iH iG) 0 true⟩∧H=sh∧UX c.cs 0 c.cs=UX c.cs k (c.cs.drop k)) c.cs.length ⟨hi,r,rfl,rfl⟩ ?_ ?_
 ·rintro k f E _ D F ⟨K,r,rfl,N⟩
  have Y:(k:Int)<c.cs.length:=by omega
  have O:k≤c.cs.length:=Nat.le_of_lt D
  have Z:=iZ (k:=k) (by omega)
  rw[List.drop_eq_getElem_cons D,UX]at N
  obtain⟨b,cb,rr,iW,lE,uE,hb⟩:=mH J W k D
  obtain⟨wo,P2⟩:=sX c.cs[k] (List.getElem_mem D)
  have pK:=UY c.cs[k].1
  obtain⟨ex,rfl,rP,A4,UL⟩:=R8 c.cs a7 I D J W
  have X:(c.cs.take k).length=k:=by rw[List.length_take,Nat.min_eq_left O]
  have U:=Gi (c.cs.take k) (.sl (List.take (k*5) I) k (ex&&decide (k=c.cs.length))) (I.take (k*5)) (by rw[X];exact rP) A4 (by rw[X];omega) (NJ c.cs sX k) 0 c.cs[k].2 _ hb wo P2
  rw[Gt c.cs O,←J7 c.cs D]at U
  unfold jb at r ⊢
  by_cases hs:Vi c.cs[k].1 <;> simp only[qB,seval,gd,BS,jw,iN,Eb,F,V,K,r,Y,iW,lE.froz1,pK,hs,aAq,Z,O,UL,Nat.sub_zero,U,acG,ajX] <;> clear F U <;> grind
 ·rintro f E _ F ⟨K,r,rfl,N⟩
  unfold jb at r ⊢
  simp only[qB,seval,gd,Eb,F,V,K,r,J.lenI,Int.lt_irrefl,N,List.drop_length,UX]
theorem aEb(fr:Fr)(lh:iL iy)(sh:List iy)(X:an fr 1= .ptr .L 1 1 0)(hi:an fr 7= .i .i64 0)(r:a6 lh 1=⟨1,.cells (jb c a7 a8 a9 a10 iH iG) 0 true⟩):
  vw pE 114 Ea fr lh sh 2 2 (Pl c.cs c.ru) (fun D H=>a6 D 1=⟨1,.cells (jb c a7 a8 a9 a10 iH iG) 0 true⟩∧H=sh):=by
 have I:=hT
 obtain⟨⟨c7,Y,j7⟩,⟨c8,F,Z⟩,⟨c9,i9,j9⟩,⟨tE,J,yx⟩,⟨vN,K,A8⟩,⟨vZ,N,CV⟩⟩:=hT
 have hlen:=hS.s8.2
 refine jW Lc (fun k f D H=>an f 7= .i .i64 (k:Int)∧a6 D 1=⟨1,.cells (jb c a7 a8 a9 a10 iH iG) 0 true⟩∧H=sh∧Pl c.cs c.ru=Pl c.cs (c.ru.drop k)) c.ru.length ⟨hi,r,rfl,rfl⟩ ?_ ?_
 ·rintro k f D _ O U ⟨V,r,rfl,W⟩
  have iU:(k:Int)<c.ru.length:=by omega
  have hw:=iZ (k:=k) (by omega)
  rw[List.drop_eq_getElem_cons O,Pl]at W
  obtain⟨b,cb,rr,iW,lE,hb⟩:=CZ F Z k O
  have E:=Kp c a7 a8 a9 a10 iH iG I hS c.ru[k].sc 4 c.ru[k].x _ hb (hS.s8.1 c.ru[k] (List.getElem_mem O))
  unfold jb at r E ⊢
  simp only[qB,seval,gd,jw,iN,Ea,U,X,V,r,F.lenI,iU,iW,lE.froz1,Y.froz1,F.froz1,i9.froz1,J.froz1,K.froz1,N.froz1,E,ajZ,aj0,hw]
  grind
 ·rintro f D _ U ⟨V,r,rfl,W⟩
  unfold jb at r ⊢
  simp only[qB,seval,gd,Ea,U,X,V,r,F.lenI,Int.lt_irrefl,W,List.drop_length,Pl]
theorem aEc(fr:Fr)(lh:iL iy)(sh:List iy)(X:an fr 1= .ptr .L 1 1 0)(hi:an fr 9= .i .i64 0)(r:a6 lh 1=⟨1,.cells (jb c a7 a8 a9 a10 iH iG) 0 true⟩):
  vw pE 114 D9 fr lh sh 4 2 (Pm c.cs c.co) (fun D H=>a6 D 1=⟨1,.cells (jb c a7 a8 a9 a10 iH iG) 0 true⟩∧H=sh):=by
 have I:=hT
 obtain⟨⟨c7,Y,j7⟩,⟨c8,Z,j8⟩,⟨c9,F,j9⟩,⟨tE,J,yx⟩,⟨vN,K,A8⟩,⟨vZ,N,CV⟩⟩:=hT
 have hlen:=hS.s9.2
 refine jW Lb (fun k f D H=>an f 9= .i .i64 (k:Int)∧a6 D 1=⟨1,.cells (jb c a7 a8 a9 a10 iH iG) 0 true⟩∧H=sh∧Pm c.cs c.co=Pm c.cs (c.co.drop k)) c.co.length ⟨hi,r,rfl,rfl⟩ ?_ ?_
 ·rintro k f D _ O U ⟨V,r,rfl,W⟩
  have iU:(k:Int)<c.co.length:=by omega
  have hw:=iZ (k:=k) (by omega)
  rw[List.drop_eq_getElem_cons O,Pm]at W
  obtain⟨b,cb,rr,iW,lE,hb⟩:=F1 F j9 k O
  have E:=Kp c a7 a8 a9 a10 iH iG I hS c.co[k].sc 1 c.co[k].x _ hb (hS.s9.1 c.co[k] (List.getElem_mem O))
  unfold jb at r E ⊢
  simp only[qB,seval,gd,jw,iN,D9,U,X,V,r,F.lenI,iU,iW,lE.froz1,Y.froz1,Z.froz1,F.froz1,J.froz1,K.froz1,N.froz1,E,ajZ,aj0,hw]
  grind
 ·rintro f D _ U ⟨V,r,rfl,W⟩
  unfold jb at r ⊢
  simp only[qB,seval,gd,D9,U,X,V,r,F.lenI,Int.lt_irrefl,W,List.drop_length,Pm]
theorem aEd(fr:Fr)(lh:iL iy)(sh:List iy)(W:an fr 1= .ptr .L 1 1 0)(hi:an fr 11= .i .i64 0)(D:a6 lh 1=⟨1,.cells (jb c a7 a8 a9 a10 iH iG) 0 true⟩):
  vw pE 114 D8 fr lh sh 6 2 (Q7 c.cs c.cr) (fun E H=>a6 E 1=⟨1,.cells (jb c a7 a8 a9 a10 iH iG) 0 true⟩∧H=sh):=by
 have I:=hT
 obtain⟨⟨c7,X,j7⟩,⟨c8,Y,j8⟩,⟨c9,Z,j9⟩,⟨tE,r,yx⟩,⟨vN,J,A8⟩,⟨vZ,K,CV⟩⟩:=hT
 have hlen:=hS.s10.2
 refine jW La (fun k f E H=>an f 11= .i .i64 (k:Int)∧a6 E 1=⟨1,.cells (jb c a7 a8 a9 a10 iH iG) 0 true⟩∧H=sh∧Q7 c.cs c.cr=Q7 c.cs (c.cr.drop k)) c.cr.length ⟨hi,D,rfl,rfl⟩ ?_ ?_
 ·rintro k f E _ N O ⟨U,D,rfl,V⟩
  have iU:(k:Int)<c.cr.length:=by omega
  have hw:=iZ (k:=k) (by omega)
  rw[List.drop_eq_getElem_cons N,Q7]at V
  obtain⟨b,cb,rr,iW,lE,uE,hb⟩:=nY r yx k N
  have F:=Kp c a7 a8 a9 a10 iH iG I hS 1 2 c.cr[k] _ hb (hS.s10.1 c.cr[k] (List.getElem_mem N))
  unfold jb at D F ⊢
  simp only[qB,seval,gd,jw,iN,D8,O,W,U,D,r.lenI,iU,iW,lE.froz1,X.froz1,Y.froz1,Z.froz1,r.froz1,J.froz1,K.froz1,F,ajZ,aj0,hw]
  grind
 ·rintro f E _ O ⟨U,D,rfl,V⟩
  unfold jb at D ⊢
  simp only[qB,seval,gd,D8,O,W,U,D,r.lenI,Int.lt_irrefl,V,List.drop_length,Q7]
theorem T6:be pE 37 [.agg (jb c a7 a8 a9 a10 iH iG)] []=some (.i .i64 (nL c),[]):=by
 have U8:=abC c a7 a8 a9 a10 iH iG hT hS
 have F:=aEa c a7 a8 a9 a10 iH iG hT hS
 have H:=aEb c a7 a8 a9 a10 iH iG hT hS
 have I:=aEc c a7 a8 a9 a10 iH iG hT hS
 have J:=aEd c a7 a8 a9 a10 iH iG hT hS
 obtain⟨⟨U,K,V⟩,⟨W,N,X⟩,⟨Y,O,Z⟩,⟨tE,r,yx⟩,⟨vN,D,A8⟩,⟨vZ,E,CV⟩⟩:=hT
 unfold jb at F H I J U8 ⊢
 rw[iD ajJ (by simp[NU])]
 unfold nL
 simp(maxDischargeDepth:=8) only[qB,seval,NU,La,Lb,Lc,Ld,K.froz1,N.froz1,O.froz1,r.froz1,D.froz1,E.froz1,U8,arQ,F,H,I,J]
 grind
end
def wR(n:Int):Bool:=decide (-840≤n)&&decide (n≤840)
def ui(n:Int):Bool:=decide (0≤n)&&decide (n<52596000)
theorem Sc(n:Int):be pE 82 [.i .i64 n] []=some (.b (wR n),[]):=by
 rw[iD ar2 (by simp[c82])]
 unfold wR
 by_cases h: -840≤n <;> simp only[qA,seval,c82,h]
theorem Sd(n:Int):be pE 97 [.i .i64 n] []=some (.b (wR n),[]):=by
 rw[iD ash (by simp[c97])]
 unfold wR
 by_cases h: -840≤n <;> simp only[qA,seval,c97,h]
theorem Ra(n:Int):be pE 83 [.i .i64 n] []=some (.b (ui n),[]):=by
 rw[iD ar3 (by simp[c83])]
 unfold ui
 by_cases h:0≤n <;> simp only[qA,seval,c83,h]
theorem Rb(n:Int):be pE 98 [.i .i64 n] []=some (.b (ui n),[]):=by
 rw[iD asi (by simp[c98])]
 unfold ui
 by_cases h:0≤n <;> simp only[qA,seval,c98,h]
structure Zo where
 nm:List Nat
 o:Int
 sh:List (Int×Int)
def T8(s:Int×Int)(c:List T):Prop:=c= [.i .i64 s.1,.i .i64 s.2]
theorem T8.len(s:Int×Int)(c:List T)(h:T8 s c):c.length=2:=by rw[h];rfl
def GZ(D:Option Int):List (Int×Int)→Int
 | []=>0
 |s::r=>if(ui s.1&&wR s.2)=false then 5 else if(match D with|some p=>decide (s.1≤p)|none=>false)=true then 8 else GZ (some s.1) r
def xh(l:List (Int×Int))(k:Nat):Option Int:=if k=0 then none else(l[k-1]?).map (·.1)
theorem abD{l:List (Int×Int)}{k:Nat}(r:k<l.length):GZ (xh l k) (l.drop k)=if(ui l[k].1&&wR l[k].2)=false then 5 else if(match xh l k with|some p=>decide (l[k].1≤p)|none=>false)=true then 8 else GZ (xh l (k+1)) (l.drop (k+1)):=by
 have e:xh l (k+1)=some l[k].1:=by unfold xh;rw[if_neg (by omega),Nat.add_sub_cancel,List.getElem?_eq_getElem r];rfl
 rw[List.drop_eq_getElem_cons r,e]
 conv=>lhs;unfold GZ
theorem IA{l:List (Int×Int)}{k:Nat}(D:0<k)(r:k-1<l.length):xh l k=some l[k-1].1:=by
 unfold xh;rw[if_neg (by omega),List.getElem?_eq_getElem r];rfl
theorem ot{k:Nat}(r:0<k)(h:k<4611686018427387904):wr .i64 ((k:Int)-1)=((k-1:Nat):Int):=by rw[jE (by omega)];omega
def oB(z:Zo):Int:=if pO z.nm=false then 1 else if wR z.o=false then 5 else if 16<z.sh.length then 10 else GZ none z.sh
theorem FQ{l:List (Int×Int)}{a:T}{D:List T}(F:iJ a l.length D)(H:iK T8 l D){k:Nat}(I:k<l.length): ∃r,∀kk,ng a (.i kk (k:Int)) 2=some (.vp (.i .i64 l[k].1:: .i .i64 l[k].2::r)):=by
 obtain⟨c,r,J,E⟩:=qu (k:=2) T8.len F H k I
 rw[T8]at E
 subst E
 exact⟨r,J⟩
theorem aEe(z:Zo)(a:T)(O:List T)(U:iJ a z.sh.length O)(V:iK T8 z.sh O)(hlen:z.sh.length≤16)(fr:Fr)(lh:iL iy)(sh:List iy)
  (h1:an fr 1= .ptr .L 1 1 0) (W:an fr 18=a) (H:an fr 19= .i .i64 (z.sh.length:Int)) (I:an fr 20= .i .i64 0) (D:a6 lh 1=⟨1,.cells [.s z.nm,.i .i64 z.o,a] 0 true⟩):
  vw pE 50 Bu fr lh sh 0 2 (GZ none z.sh) (fun E J=>J=sh):=by
 refine jW Vt (fun k f E J=>an f 20= .i .i64 (k:Int)∧a6 E 1=⟨1,.cells [.s z.nm,.i .i64 z.o,a] 0 true⟩∧J=sh∧GZ none z.sh=GZ (xh z.sh k) (z.sh.drop k)) z.sh.length ⟨I,D,rfl,rfl⟩ ?_ ?_
 ·rintro k f E _ X r ⟨F,D,rfl,K⟩
  rw[abD X]at K
  have Y:(k:Int)<z.sh.length:=by omega
  have Z:=iX (k:=k) (by omega)
  obtain⟨rr,iW⟩:=FQ U V X
  have i1:=j3 (Ra z.sh[k].1)
  have i2:=j3 (Sc z.sh[k].2)
  by_cases JB:k=0
  ·have N: ¬(0:Int)<k:=by omega
   have hp:xh z.sh k=none:=by rw[JB];rfl
   simp only[qB,seval,gd,Bu,r,W,H,F,D,Y,iW,i1,i2,N,Z,aj8,acH]
   clear r
   grind
  ·have N:(0:Int)<k:=by omega
   have Jt:=ot (k:=k) (by omega) (by omega)
   obtain⟨r2,N7⟩:=FQ U V (k:=k-1) (by omega)
   have hp:=IA (l:=z.sh) (k:=k) (by omega) (by omega)
   simp only[qB,seval,gd,Bu,r,h1,W,H,F,D,Y,iW,i1,i2,N,Z,Jt,N7,aj8,acH]
   clear r
   grind
 ·rintro f E _ r ⟨F,D,rfl,K⟩
  simp only[qB,seval,gd,Bu,r,H,F,Int.lt_irrefl,K,List.drop_length,GZ]
theorem FR(z:Zo)(a:T)(r:List T)(D:iJ a z.sh.length r)(H:iK T8 z.sh r):be pE 48 [.agg [.s z.nm,.i .i64 z.o,a]] []=some (.i .i64 (oB z),[]):=by
 rw[iD arz (by simp[c48])]
 have E:=j3 (AA z.nm)
 have F:=j3 (Sc z.o)
 unfold oB
 by_cases hl:z.sh.length≤16
 ·have I:=aEe z a r D H hl
  simp only[qB,seval,c48,E,F,D.lenI,I,WK,acH]
  grind
 ·simp only[qB,seval,c48,E,F,D.lenI,WK,acH]
  grind
theorem aEf(z:Zo)(a:T)(U:List T)(E:iJ a z.sh.length U)(V:iK T8 z.sh U)(hlen:z.sh.length≤16)(fr:Fr)(lh:iL iy)(sh:List iy)
  (I:an fr 1= .ptr .L 1 1 0) (J:an fr 3= .i .i64 0) (r:a6 lh 1=⟨1,.cells [.s z.nm,.i .i64 z.o,a] 0 true⟩):
  vw pE 59 Bv fr lh sh 0 2 (GZ none z.sh) (fun F K=>K=sh):=by
 refine jW Vx (fun k f F K=>an f 3= .i .i64 (k:Int)∧a6 F 1=⟨1,.cells [.s z.nm,.i .i64 z.o,a] 0 true⟩∧K=sh∧GZ none z.sh=GZ (xh z.sh k) (z.sh.drop k)) z.sh.length ⟨J,r,rfl,rfl⟩ ?_ ?_
 ·rintro k f F _ W D ⟨H,r,rfl,N⟩
  rw[abD W]at N
  have X:(k:Int)<z.sh.length:=by omega
  have Y:=iX (k:=k) (by omega)
  obtain⟨rr,Z⟩:=FQ E V W
  have i1:=j3 (Rb z.sh[k].1)
  have i2:=j3 (Sd z.sh[k].2)
  by_cases JB:k=0
  ·have O: ¬(0:Int)<k:=by omega
   have hp:xh z.sh k=none:=by rw[JB];rfl
   simp only[qB,seval,gd,Bv,D,I,E.lenI,H,r,X,Z,i1,i2,O,Y,aka,acK]
   clear D
   grind
  ·have O:(0:Int)<k:=by omega
   have Jt:=ot (k:=k) (by omega) (by omega)
   obtain⟨r2,N7⟩:=FQ E V (k:=k-1) (by omega)
   have hp:=IA (l:=z.sh) (k:=k) (by omega) (by omega)
   simp only[qB,seval,gd,Bv,D,I,E.lenI,H,r,X,Z,i1,i2,O,Y,Jt,N7,aka,acK]
   clear D
   grind
 ·rintro f F _ D ⟨H,r,rfl,N⟩
  simp only[qB,seval,gd,Bv,D,I,E.lenI,H,r,Int.lt_irrefl,N,List.drop_length,GZ]
theorem FT(z:Zo)(a:T)(r:List T)(D:iJ a z.sh.length r)(H:iK T8 z.sh r):be pE 60 [.agg [.s z.nm,.i .i64 z.o,a]] []=some (.i .i64 (oB z),[]):=by
 rw[iD arM (by simp[c60])]
 have E:=j3 (Az z.nm)
 have F:=j3 (Sd z.o)
 unfold oB
 by_cases hl:z.sh.length≤16
 ·have I:=aEf z a r D H hl
  simp only[qB,seval,c60,E,F,D.lenI,I,SX,acK]
  grind
 ·simp only[qB,seval,c60,E,F,D.lenI,SX,acK]
  grind
mutual
def Ex.al:Ex→Prop
 | .mk _ _ _ args=>args.length≤mh∧alL args
def alL:List Ex→Prop
 | []=>True
 |x::xs=>x.al∧alL xs
end
theorem Ex.al_eq(x:Ex):x.al↔(x.args.length≤mh∧alL x.args):=by obtain⟨_,_,_,_⟩:=x;rw[Ex.al];rfl
theorem J6: ∀{xs:List Ex},alL xs↔ ∀x∈xs,x.al
 | []=>by simp[alL]
 |x::xs=>by simp_all[alL,J6]
def Ba:T→Bool
 | .i .i64 _=>true
 |_=>false
theorem pP{n:Int}:Ba (.i .i64 n)=true:=nr rfl
theorem vM{v:T}(h:Ba v=true): ∃n,v= .i .i64 n:=by
 cases v with
 |i k n=>cases k <;> first|exact⟨n,rfl⟩|(simp[Ba]at h)
 |_=>simp[Ba]at h
def axt(y:Ex):Prop:= ∀cs:List T,mE y cs→y.al→ ∃n:Int,be pE 47 [.agg cs] []=some (.i .i64 n,[])
theorem aEg(xs:List Ex)(ih: ∀y∈xs,axt y)(a:T)(J:List T)(E:iJ a xs.length J)(O:kz xs J)(hlen:xs.length≤mh)(LQ:alL xs)(op num:Int)(s:List Nat)(fr:Fr)(lh:iL iy)(sh:List iy)
  (r:an fr 1= .ptr .L 1 1 0) (D:Ba (an fr 3)=true) (hi:an fr 4= .i .i64 0) (F:a6 lh 1=⟨1,.cells [.i .i64 op,.i .i64 num,.s s,a] 0 true⟩):
  qG 25 wC fr lh sh (.ext 0)∧(Ba (an (pb pE 25 wC fr lh sh) 3)=true∧nh pE 25 wC fr lh sh=lh∧nB pE 25 wC fr lh sh=sh):=by
 refine jh (P:=fun U V W=>Ba (an U 3)=true∧V=lh∧W=sh)
  (jx (fun k st=> ∃(fr:Fr),st=⟨fr,lh,sh⟩∧an fr 1= .ptr .L 1 1 0∧Ba (an fr 3)=true∧an fr 4= .i .i64 (k:Int)) _ xs.length ?_ ?_ 0 _ (Nat.zero_le _) ⟨fr,rfl,r,D,hi⟩)
 ·rintro k _ H ⟨fr,rfl,r,D,hi⟩
  have K:(k:Int)<xs.length:=by omega
  have X:=oO (k:=k) (by omega)
  obtain⟨b,cb,rr,Y,Z,uE,hb⟩:=nY E O k H
  obtain⟨n,I⟩:=vM D
  obtain⟨m,iI⟩:=ih xs[k] (List.getElem_mem H) _ hb (J6.1 LQ _ (List.getElem_mem H))
  by_cases N:n<1000
  ·left
   simp only[qA,seval,wC,r,I,hi,F,E.lenI,K,N,Y,X,Z.froz1,iI,WI]
   refine⟨_,rfl,_,rfl, ?_, ?_, ?_⟩
   ·simp only[qA,seval,r]
   ·simp only[qA,seval,pP]
   ·simp only[qA,seval]
  ·right
   simp only[qA,seval,wC,r,I,hi,F,E.lenI,K,N]
   refine⟨_,_,oH,rfl,rfl, ?_,rfl,rfl⟩
   simp only[qA,seval,I,pP]
 ·rintro _ ⟨fr,rfl,r,D,hi⟩
  simp only[qA,seval,wC,r,hi,F,E.lenI,Int.lt_irrefl]
  refine⟨_,_,oH,rfl,rfl, ?_,rfl,rfl⟩
  simp only[qA,seval,D]
theorem Kq(x:Ex):axt x:=by
 induction x using Ex.ind with
 |h x ih=>
  intro cs D LQ
  obtain⟨a,E,rfl,F,H⟩:=D.cells
  obtain⟨hlen,I⟩:=(Ex.al_eq x).1 LQ
  have r:=fun fr lh sh J K hi N=>aEg x.args (fun y O=>ih y O) a E F H hlen I x.op x.num x.name fr lh sh J K hi N
  rw[iD ary (by simp[c47])]
  simp only[qA,seval,c47,pP,r]
  generalize U:an (pb _ _ _ _ _ _) 3=X
  obtain⟨n,V⟩: ∃n,X= .i .i64 n:=by
   rw[←U]
   refine vM (r _ _ _ ?_ ?_ ?_ ?_).2.1 <;> simp only[qA,seval,pP]
  rw[V]
  simp only[qA,seval]
  grind
theorem aEh(xs:Cs)(a:T)(I:List T)(E:iJ a xs.length I)(O:lB xs I)(hlen:xs.length≤mh)(LQ: ∀u∈xs,u.2.al)(c:Ct)(a8 a9 a10 iH iG:T)(fr:Fr)(lh:iL iy)(sh:List iy)
  (r:an fr 1= .ptr .L 1 1 0) (D:Ba (an fr 3)=true) (hi:an fr 4= .i .i64 0) (F:a6 lh 1=⟨1,.cells [.i .i64 c.rp,.i .i64 c.rl,.i .i64 c.cn,.i .i64 c.st,.i .i64 c.ly,.i .i64 c.nf,.i .i64 c.nt,a,a8,a9,a10,iH,iG,.i .i64 c.gu] 0 true⟩):
  qG 96 uL fr lh sh (.ext 0)∧(Ba (an (pb pE 96 uL fr lh sh) 3)=true∧nh pE 96 uL fr lh sh=lh∧nB pE 96 uL fr lh sh=sh):=by
 refine jh (P:=fun U V W=>Ba (an U 3)=true∧V=lh∧W=sh)
  (jx (fun k st=> ∃(fr:Fr),st=⟨fr,lh,sh⟩∧an fr 1= .ptr .L 1 1 0∧Ba (an fr 3)=true∧an fr 4= .i .i64 (k:Int)) _ xs.length ?_ ?_ 0 _ (Nat.zero_le _) ⟨fr,rfl,r,D,hi⟩)
 ·rintro k _ J ⟨fr,rfl,r,D,hi⟩
  have K:(k:Int)<xs.length:=by omega
  have X:=oO (k:=k) (by omega)
  obtain⟨b,cb,rr,Y,Z,uE,hb⟩:=mH E O k J
  obtain⟨n,H⟩:=vM D
  obtain⟨m,iI⟩:=Kq xs[k].2 _ hb (LQ _ (List.getElem_mem J))
  by_cases N:n<3000
  ·left
   simp only[qA,seval,uL,r,H,hi,F,E.lenI,K,N,Y,X,Z.froz1,iI,WI]
   refine⟨_,rfl,_,rfl, ?_, ?_, ?_⟩
   ·simp only[qA,seval,r]
   ·simp only[qA,seval,pP]
   ·simp only[qA,seval]
  ·right
   simp only[qA,seval,uL,r,H,hi,F,E.lenI,K,N]
   refine⟨_,_,oH,rfl,rfl, ?_,rfl,rfl⟩
   simp only[qA,seval,H,pP]
 ·rintro _ ⟨fr,rfl,r,D,hi⟩
  simp only[qA,seval,uL,r,hi,F,E.lenI,Int.lt_irrefl]
  refine⟨_,_,oH,rfl,rfl, ?_,rfl,rfl⟩
  simp only[qA,seval,D]
theorem aEi(xs:List Ru)(a:T)(I:List T)(E:iJ a xs.length I)(O:iK U6 xs I)(hlen:xs.length≤mh)(LQ: ∀u∈xs,u.x.al)(c:Ct)(a7 a9 a10 iH iG:T)(fr:Fr)(lh:iL iy)(sh:List iy)
  (r:an fr 1= .ptr .L 1 1 0) (D:Ba (an fr 3)=true) (hi:an fr 5= .i .i64 0) (F:a6 lh 1=⟨1,.cells [.i .i64 c.rp,.i .i64 c.rl,.i .i64 c.cn,.i .i64 c.st,.i .i64 c.ly,.i .i64 c.nf,.i .i64 c.nt,a7,a,a9,a10,iH,iG,.i .i64 c.gu] 0 true⟩):
  qG 96 uK fr lh sh (.ext 2)∧(Ba (an (pb pE 96 uK fr lh sh) 3)=true∧nh pE 96 uK fr lh sh=lh∧nB pE 96 uK fr lh sh=sh):=by
 refine jh (P:=fun U V W=>Ba (an U 3)=true∧V=lh∧W=sh)
  (jx (fun k st=> ∃(fr:Fr),st=⟨fr,lh,sh⟩∧an fr 1= .ptr .L 1 1 0∧Ba (an fr 3)=true∧an fr 5= .i .i64 (k:Int)) _ xs.length ?_ ?_ 0 _ (Nat.zero_le _) ⟨fr,rfl,r,D,hi⟩)
 ·rintro k _ J ⟨fr,rfl,r,D,hi⟩
  have K:(k:Int)<xs.length:=by omega
  have X:=oO (k:=k) (by omega)
  obtain⟨b,cb,rr,Y,Z,hb⟩:=CZ E O k J
  obtain⟨n,H⟩:=vM D
  obtain⟨m,iI⟩:=Kq xs[k].x _ hb (LQ _ (List.getElem_mem J))
  by_cases N:n<3000
  ·left
   simp only[qA,seval,uK,r,H,hi,F,E.lenI,K,N,Y,X,Z.froz1,iI,WI]
   refine⟨_,rfl,_,rfl, ?_, ?_, ?_⟩
   ·simp only[qA,seval,r]
   ·simp only[qA,seval,pP]
   ·simp only[qA,seval]
  ·right
   simp only[qA,seval,uK,r,H,hi,F,E.lenI,K,N]
   refine⟨_,_,oH,rfl,rfl, ?_,rfl,rfl⟩
   simp only[qA,seval,H,pP]
 ·rintro _ ⟨fr,rfl,r,D,hi⟩
  simp only[qA,seval,uK,r,hi,F,E.lenI,Int.lt_irrefl]
  refine⟨_,_,oH,rfl,rfl, ?_,rfl,rfl⟩
  simp only[qA,seval,D]
theorem aEj(xs:List Co)(a:T)(I:List T)(E:iJ a xs.length I)(O:iK CoR xs I)(hlen:xs.length≤mh)(LQ: ∀u∈xs,u.x.al)(c:Ct)(a7 a8 a10 iH iG:T)(fr:Fr)(lh:iL iy)(sh:List iy)
  (r:an fr 1= .ptr .L 1 1 0) (D:Ba (an fr 3)=true) (hi:an fr 6= .i .i64 0) (F:a6 lh 1=⟨1,.cells [.i .i64 c.rp,.i .i64 c.rl,.i .i64 c.cn,.i .i64 c.st,.i .i64 c.ly,.i .i64 c.nf,.i .i64 c.nt,a7,a8,a,a10,iH,iG,.i .i64 c.gu] 0 true⟩):
  qG 96 uJ fr lh sh (.ext 4)∧(Ba (an (pb pE 96 uJ fr lh sh) 3)=true∧nh pE 96 uJ fr lh sh=lh∧nB pE 96 uJ fr lh sh=sh):=by
 refine jh (P:=fun U V W=>Ba (an U 3)=true∧V=lh∧W=sh)
  (jx (fun k st=> ∃(fr:Fr),st=⟨fr,lh,sh⟩∧an fr 1= .ptr .L 1 1 0∧Ba (an fr 3)=true∧an fr 6= .i .i64 (k:Int)) _ xs.length ?_ ?_ 0 _ (Nat.zero_le _) ⟨fr,rfl,r,D,hi⟩)
 ·rintro k _ J ⟨fr,rfl,r,D,hi⟩
  have K:(k:Int)<xs.length:=by omega
  have X:=oO (k:=k) (by omega)
  obtain⟨b,cb,rr,Y,Z,hb⟩:=F1 E O k J
  obtain⟨n,H⟩:=vM D
  obtain⟨m,iI⟩:=Kq xs[k].x _ hb (LQ _ (List.getElem_mem J))
  by_cases N:n<3000
  ·left
   simp only[qA,seval,uJ,r,H,hi,F,E.lenI,K,N,Y,X,Z.froz1,iI,WI]
   refine⟨_,rfl,_,rfl, ?_, ?_, ?_⟩
   ·simp only[qA,seval,r]
   ·simp only[qA,seval,pP]
   ·simp only[qA,seval]
  ·right
   simp only[qA,seval,uJ,r,H,hi,F,E.lenI,K,N]
   refine⟨_,_,oH,rfl,rfl, ?_,rfl,rfl⟩
   simp only[qA,seval,H,pP]
 ·rintro _ ⟨fr,rfl,r,D,hi⟩
  simp only[qA,seval,uJ,r,hi,F,E.lenI,Int.lt_irrefl]
  refine⟨_,_,oH,rfl,rfl, ?_,rfl,rfl⟩
  simp only[qA,seval,D]
theorem aEk(xs:List Ex)(a:T)(I:List T)(E:iJ a xs.length I)(O:kz xs I)(hlen:xs.length≤mh)(LQ: ∀u∈xs,u.al)(c:Ct)(a7 a8 a9 iH iG:T)(fr:Fr)(lh:iL iy)(sh:List iy)
  (r:an fr 1= .ptr .L 1 1 0) (D:Ba (an fr 3)=true) (hi:an fr 7= .i .i64 0) (F:a6 lh 1=⟨1,.cells [.i .i64 c.rp,.i .i64 c.rl,.i .i64 c.cn,.i .i64 c.st,.i .i64 c.ly,.i .i64 c.nf,.i .i64 c.nt,a7,a8,a9,a,iH,iG,.i .i64 c.gu] 0 true⟩):
  qG 96 uI fr lh sh (.ext 6)∧(Ba (an (pb pE 96 uI fr lh sh) 3)=true∧nh pE 96 uI fr lh sh=lh∧nB pE 96 uI fr lh sh=sh):=by
 refine jh (P:=fun U V W=>Ba (an U 3)=true∧V=lh∧W=sh)
  (jx (fun k st=> ∃(fr:Fr),st=⟨fr,lh,sh⟩∧an fr 1= .ptr .L 1 1 0∧Ba (an fr 3)=true∧an fr 7= .i .i64 (k:Int)) _ xs.length ?_ ?_ 0 _ (Nat.zero_le _) ⟨fr,rfl,r,D,hi⟩)
 ·rintro k _ J ⟨fr,rfl,r,D,hi⟩
  have K:(k:Int)<xs.length:=by omega
  have X:=oO (k:=k) (by omega)
  obtain⟨b,cb,rr,Y,Z,uE,hb⟩:=nY E O k J
  obtain⟨n,H⟩:=vM D
  obtain⟨m,iI⟩:=Kq xs[k] _ hb (LQ _ (List.getElem_mem J))
  by_cases N:n<3000
  ·left
   simp only[qA,seval,uI,r,H,hi,F,E.lenI,K,N,Y,X,Z.froz1,iI,WI]
   refine⟨_,rfl,_,rfl, ?_, ?_, ?_⟩
   ·simp only[qA,seval,r]
   ·simp only[qA,seval,pP]
   ·simp only[qA,seval]
  ·right
   simp only[qA,seval,uI,r,H,hi,F,E.lenI,K,N]
   refine⟨_,_,oH,rfl,rfl, ?_,rfl,rfl⟩
   simp only[qA,seval,H,pP]
 ·rintro _ ⟨fr,rfl,r,D,hi⟩
  simp only[qA,seval,uI,r,hi,F,E.lenI,Int.lt_irrefl]
  refine⟨_,_,oH,rfl,rfl, ?_,rfl,rfl⟩
  simp only[qA,seval,D]
structure CtA (c:Ct):Prop where
 a7:(∀u∈c.cs,u.2.al)∧c.cs.length≤mh
 a8:(∀u∈c.ru,u.x.al)∧c.ru.length≤mh
 a9:(∀u∈c.co,u.x.al)∧c.co.length≤mh
 a10:(∀u∈c.cr,u.al)∧c.cr.length≤mh
 iH:c.li.length≤mh
 iG:c.fs.length≤mh
theorem aa4(c:Ct)(a7 a8 a9 a10 iH iG:T)(hT:uF c a7 a8 a9 a10 iH iG)(r:CtA c): ∃b,be pE 29 [.agg (jb c a7 a8 a9 a10 iH iG)] []=some (.b b,[]):=by
 obtain⟨⟨V,W,Y⟩,⟨Z,i8,j8⟩,⟨c9,i9,j9⟩,⟨tE,I,yx⟩,⟨vN,J,A8⟩,⟨vZ,K,CV⟩⟩:=hT
 have N:=fun fr lh sh D E hi F=>aEh c.cs a7 V W Y r.a7.2 r.a7.1 c a8 a9 a10 iH iG fr lh sh D E hi F
 have O:=fun fr lh sh D E hi F=>aEi c.ru a8 Z i8 j8 r.a8.2 r.a8.1 c a7 a9 a10 iH iG fr lh sh D E hi F
 have U:=fun fr lh sh D E hi F=>aEj c.co a9 c9 i9 j9 r.a9.2 r.a9.1 c a7 a8 a10 iH iG fr lh sh D E hi F
 have H:=fun fr lh sh D E hi F=>aEk c.cr a10 tE I yx r.a10.2 r.a10.1 c a7 a8 a9 iH iG fr lh sh D E hi F
 unfold jb
 rw[iD arc (by simp[c29])]
 simp(maxDischargeDepth:=6) only[qA,seval,c29,KX,KY,KZ,J.lenI,K.lenI,pP,N,O,U,H]
 generalize hX:an (pb _ _ uI _ _ _) 3=X
 obtain⟨n,hn⟩: ∃n,X= .i .i64 n:=by
  rw[←hX]
  refine vM (H _ _ _ ?_ ?_ ?_ ?_).2.1 <;> simp(maxDischargeDepth:=6) only[qA,seval,KX,KY,KZ,pP,N,O,U]
 rw[hn]
 simp(maxDischargeDepth:=6) only[qA,seval]
 grind
end Go.Proofs.YtjniffjppoklpaaGreat
