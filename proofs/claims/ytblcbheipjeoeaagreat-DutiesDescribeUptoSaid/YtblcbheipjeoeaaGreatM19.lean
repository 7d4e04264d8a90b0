/- Walks of functions of the program and of the reference, and their plain laws, part 19. Conditions: the theorems' own. -/
import Derived.Test.YtblcbheipjeoeaaGreatM18
import Derived.KernelRfl
set_option maxRecDepth 100000
set_option linter.unusedSimpArgs false
set_option linter.unusedVariables false
set_option maxHeartbeats 16000000
namespace Go.Ev
open Go
section
variable{E:Env}{call:rh}{n:Nat}{fr:Fr}{lh:hJ gR}{sh:List gR}{ds:List (List Nat×be)}{jM:List FP}
theorem YY{d:Option Nat}{i:Bool}{sz bytes:Nat}{s x:iz}(hs:notS (rd fr s)=true):iK E call n (([],⟨d,.app sz bytes s x false i,none⟩)::ds) jM ⟨fr,lh,sh⟩=
  ke E call n ds (jM++ [(jk E call ⟨d,.app sz bytes s x false i,none⟩ ⟨fr,lh,sh⟩).getD nW]) (gV E call n [⟨d,.app sz bytes s x false i,none⟩] ⟨fr,lh,sh⟩):=by
 rw[ve (fp:=(jk E call ⟨d,.app sz bytes s x false i,none⟩ ⟨fr,lh,sh⟩).getD nW)]
 ·rfl
 ·intro r
  obtain⟨v,C,D,F⟩:=yb (q:=rA (d.getD 0) sz bytes (rd fr s) (rd fr x) false i) (by rfl) (by rw[lq];rfl) r
  have:=F (by rw[Ie hs D];simp)
  rw[this];rfl
end
theorem Lr{lh:hJ gR}{sh:List gR}{v:T}{k sz n m bytes:Nat}{cs ps:List T}{x:T}(h:iT lh v k sz n cs)(i:slC lh sh sz x=some (m,ps))(r:ps.length=m*sz)(C:(n+m)*bytes≤roomy):
  appW lh sh k sz bytes v x=some (Ij lh sh k sz bytes v x,Ar lh sh k sz bytes v x)∧iT (Ar lh sh k sz bytes v x) (Ij lh sh k sz bytes v x) k sz (n+m) (cs++ps):=by
 cases m with
 |succ m=>exact⟨(h.appW i r C).1,(h.appW i r C).2.1⟩
 |zero=>
  have D:ps= []:=List.eq_nil_of_length_eq_zero (by simpa using r)
  subst D
  have e:appW lh sh k sz bytes v x=some (v,lh):=by
   unfold appW
   rw[i,Option.bind_some,Bt]
   rcases h with⟨_,rfl,_⟩|⟨g,wm,rfl,_⟩ <;> rfl
  have F:Ij lh sh k sz bytes v x=v:=by unfold Ij;rw[e]
  have H:Ar lh sh k sz bytes v x=lh:=by unfold Ar;rw[e]
  rw[F,H,Nat.add_zero,List.append_nil]
  exact⟨e,h⟩
def IS(lh:hJ gR)(v:T)(sz n:Nat)(cs:List T):Prop:= ∃k,iT lh v k sz n cs
theorem IS.notS{lh:hJ gR}{v:T}{sz n:Nat}{cs:List T}(h:IS lh v sz n cs):Ev.notS v=true:=by obtain⟨k,h⟩:=h;exact h.notS
theorem EV{lh:hJ gR}{sh:List gR}{v:T}{d sz n m bytes:Nat}{cs ps:List T}{x:T}(h:IS lh v sz n cs)(i:slC lh sh sz x=some (m,ps))(r:ps.length=m*sz)(C:(n+m)*bytes≤roomy):
  ∃D F,appW lh sh d sz bytes v x=some (D,F)∧IS F D sz (n+m) (cs++ps):=by
 obtain⟨k,h⟩:=h
 rcases h with⟨rfl,rfl,rfl⟩|⟨g,wm,rfl,h2,h3,h4⟩
 ·obtain⟨e,o⟩:=Lr (iT.nil (lh:=lh) (k:=d)) i r C
  exact⟨_,_,e,d,o⟩
 ·obtain⟨e,o⟩:=Lr (Or.inr ⟨g,wm,rfl,h2,h3,h4⟩:iT lh (.isl .L k g 0 n sz) k sz n cs) i r C
  refine⟨_,_, ?_,k,o⟩
  rw[←e]
  unfold appW
  rw[i,Option.bind_some,Option.bind_some]
  cases m with
  |zero=>rw[Bt rfl,Bt rfl]
  |succ m=>rw[wN,wN]
theorem IS.fzV{lh:hJ gR}{sh:List gR}{v:T}{sz n:Nat}{cs:List T}{keep:Bool}(h:IS lh v sz n cs):Ev.fzV lh sh keep v=some (lJ n cs,fzU lh v):=by obtain⟨k,h⟩:=h;exact h.fzV
theorem IS.isl{lh:hJ gR}{v:T}{sz n:Nat}{cs:List T}(h:IS lh v sz n cs):g8 (lJ n cs) n cs:=by obtain⟨k,h⟩:=h;exact h.isl
end Go.Ev
namespace Go.Proofs.YtblcbheipjeoeaaGreat
open Go Go.Ev
def kZ(n:Int):List Int→Nat
 | []=>0
 |x::l=>if x<n then kZ n l+1 else 0
def uf(n:Int):List Int→List Int
 | []=> [n]
 |x::l=>if x<n then x::uf n l else if x=n then x::l else n::x::l
theorem P6(n:Int): ∀l:List Int,kZ n l≤l.length
 | []=>Nat.le_refl _
 |x::l=>by
  have:=P6 n l
  simp only[kZ,List.length_cons];split <;> omega
theorem agL(n:Int): ∀(l:List Int) (j:Nat) (i:j<kZ n l),l[j]'(Nat.lt_of_lt_of_le i (P6 n l))<n
 |x::l,j,i=>by
  simp only[kZ]at i
  split at i
  ·rename_i h
   cases j with
   |zero=>exact h
   |succ j=>exact agL n l j (by omega)
  ·omega
theorem agM(n:Int): ∀(l:List Int) (h:kZ n l<l.length),¬l[kZ n l]<n
 |x::l,h=>by
  simp only[kZ]at h ⊢
  by_cases i:x<n
  ·simp only[i,if_true]at h ⊢
   exact agM n l (by simpa using h)
  ·simp only[i,if_false]at h ⊢
   exact i
theorem EW(n:Int): ∀(l:List Int),(∀h:kZ n l<l.length,l[kZ n l]≠n)→uf n l=l.take (kZ n l)++n::l.drop (kZ n l)
 | [],_=>rfl
 |x::l,h=>by
  unfold uf
  by_cases i:x<n
  ·have ih:=EW n l (fun C=>by have:=h (by simp only[kZ,i,if_true,List.length_cons];omega);simpa only[kZ,i,if_true,List.getElem_cons_succ]using this)
   simp only[kZ,i,if_true,List.take_succ_cons,List.drop_succ_cons,List.cons_append]
   rw[ih]
  ·have r:=h (by simp only[kZ,i,if_false,List.length_cons];omega)
   simp only[kZ,i,if_false,List.getElem_cons_zero]at r
   simp only[kZ,i,if_false,r,List.take_zero,List.drop_zero,List.nil_append]
theorem Ls(n:Int): ∀(l:List Int) (h:kZ n l<l.length),l[kZ n l]=n→uf n l=l
 |x::l,h,i=>by
  unfold uf
  by_cases r:x<n
  ·simp only[kZ,r,if_true,List.getElem_cons_succ,List.length_cons]at h i
   rw[if_pos r,Ls n l (by omega) i]
  ·simp only[kZ,r,if_false,List.getElem_cons_zero]at h i
   rw[if_neg r,if_pos i]
theorem ayg(l:List Int)(n:Int)(a:T)(H:g8 a l.length (ints l))(O:l.length≤4611686018427387000)(fr:Fr)(lh:hJ gR)(sh:List gR)(C:an fr 0=a)(D:an fr 1= .i .i64 n)(r:an fr 5= .i .i64 0):
  kV 44 sZ fr lh sh (.ext 0)∧
  (an (kh pE 44 sZ fr lh sh) 5= .i .i64 (kZ n l:Int)∧kb pE 44 sZ fr lh sh=sh):=by
 refine jo (fun k st=> ∃(fr:Fr) (lh:hJ gR),st=⟨fr,lh,sh⟩∧an fr 0=a∧an fr 1= .i .i64 n∧an fr 5= .i .i64 (k:Int)) (fun U Z V=>an U 5= .i .i64 (kZ n l:Int)∧V=sh) _ (kZ n l) ?_ ?_ fr lh sh ⟨fr,lh,rfl,C,D,r⟩
 ·rintro k _ I ⟨fr,lh,rfl,C,D,r⟩
  have sQ:=P6 n l
  have F:(k:Int)<l.length:=by omega
  have W:=iG (k:=k) (by omega)
  obtain⟨X,K⟩:=ints_at H k (by omega)
  have Y:=agL n l k I
  have J:=H.lenI
  generalize l[k]=y at*
  simp only[qA,seval,sZ,C,D,r,J,F,K,W,Y]
  exact iN ⟨_,_,rfl,by simp only[qA,seval,C],by simp only[qA,seval,D],by simp only[qA,seval]⟩
 ·rintro _ ⟨fr,lh,rfl,C,D,r⟩
  have J:=H.lenI
  by_cases I:kZ n l<l.length
  ·have F:(kZ n l:Int)<l.length:=by omega
   obtain⟨X,K⟩:=ints_at H _ I
   have N:=agM n l I
   generalize l[kZ n l]=y at*
   generalize kZ n l=k at*
   simp only[qA,seval,sZ,C,D,r,J,F,K,N]
   exact jD ⟨rfl,by simp only[qA,seval,r],rfl⟩
  ·have F: ¬(kZ n l:Int)<l.length:=by omega
   generalize kZ n l=k at*
   simp only[qA,seval,sZ,C,r,J,F]
   exact jD ⟨rfl,by simp only[qA,seval,r],rfl⟩
theorem asM{fr:Fr}{lh:hJ gR}{sh:List gR}{D:Option (Out×St)}(l:List Int)(n:Int)(a:T)(F:g8 a l.length (ints l))(r:l.length≤4611686018427387000)(H:DC pE 44 (.loop sZ) ⟨fr,lh,sh⟩=D)(I:an fr 0=a)(J:an fr 1= .i .i64 n)(K:an fr 5= .i .i64 0):
  ∃C N,D=some (.ext 0,⟨C,N,sh⟩)∧an C 5= .i .i64 (kZ n l:Int)∧ ∀s,(kJ (.loop sZ)).contains s=false→an C s=an fr s:=by
 obtain⟨e,O,U⟩:=ayg l n a F r fr lh sh I J K
 unfold kV at e;rw[U]at e
 exact⟨_,_,H.symm.trans e,O,fun s hs=>lW e s hs⟩
theorem Lt{a:T}{l:List Int}(C:g8 a l.length (ints l))(i j:Nat)(r:i≤j)(D:j≤l.length): ∃x,u9 1 a i j=some x∧ ∀lh sh,slC lh sh 1 x=some (j-i,ints ((l.drop i).take (j-i))):=by
 rcases C with⟨rfl,h0,hn⟩|⟨ex,rfl⟩
 ·have F:i=0:=by omega
  have H:j=0:=by omega
  subst F;subst H
  refine⟨.nilsl,rfl,fun lh sh=> ?_⟩
  rw[Pk];simp[ints]
 ·have I:=kg l
  refine⟨_,by unfold u9;simp only[];rw[if_pos ⟨r,D,by omega⟩],fun lh sh=> ?_⟩
  rw[yI,if_pos (by simp[ints];omega)]
  simp[ints,List.map_drop,List.map_take]
theorem adh{a:T}{n:Nat}{cs:List T}(h:g8 a n cs):tC a=some n:=by
 rcases h with⟨rfl,rfl,_⟩|⟨ex,rfl⟩ <;> rfl
theorem P7(l:List Int)(n:Int)(a:T)(U:g8 a l.length (ints l))(V:l.length≤1048576)(lh:hJ gR)(k:Nat)(N:k≤l.length):
  ∃I C,∃J K D F H r,(u9 1 a 0 k=some J∧u9 1 a k l.length=some K)∧appW lh [] 36 1 8 .nilsl J=some (D,F)∧(appW F [] 39 1 8 D (.sl [.i .i64 n] 1 true)=some (H,r)∧appW r [] 43 1 8 H K=some (I,C))∧(Ev.notS D=true∧Ev.notS H=true)∧IS C I 1 (l.take k++n::l.drop k).length (ints (l.take k++n::l.drop k)):=by
 obtain⟨J,W,X⟩:=Lt U 0 k (Nat.zero_le _) N
 obtain⟨K,Y,Z⟩:=Lt U k l.length N (Nat.le_refl _)
 have O: ∀m:Nat,m≤1048577→m*8≤roomy:=fun m hm=>by unfold roomy;omega
 obtain⟨D,F,a1,O1⟩:=EV (lh:=lh) (sh:= []) (d:=36) (bytes:=8) (n:=0) (cs:= []) ⟨0,iT.nil⟩ (X lh []) (by rw[kg];simp;omega) (O _ (by omega))
 obtain⟨H,r,a2,O2⟩:=EV (lh:=F) (sh:= []) (d:=39) (bytes:=8) (x:= .sl [.i .i64 n] 1 true) (m:=1) O1 (ps:= [.i .i64 n]) (by rw[yI];rfl) rfl (O _ (by omega))
 obtain⟨I,C,a3,O3⟩:=EV (lh:=r) (sh:= []) (d:=43) (bytes:=8) O2 (Z r []) (by rw[kg];simp) (O _ (by omega))
 refine⟨I,C,J,K,D,F,H,r,⟨W,Y⟩,a1,⟨a2,a3⟩,⟨O1.notS,O2.notS⟩, ?_⟩
 have e3:0+(k-0)+1+(l.length-k)=(l.take k++n::l.drop k).length:=by rw[List.length_append,List.length_cons,List.length_take,List.length_drop,Nat.min_eq_left N];omega
 have e4: []++ints ((l.drop 0).take (k-0))++ [.i .i64 n]++ints ((l.drop k).take (l.length-k))=ints (l.take k++n::l.drop k):=by
  have e5:(l.drop k).take (l.length-k)=l.drop k:=List.take_of_length_le (by rw[List.length_drop];omega)
  rw[e5,List.drop_zero,Nat.sub_zero];simp[ints]
 rw[e3,e4]at O3
 exact O3
theorem ajX(l:List Int)(n:Int)(a:T)(r:g8 a l.length (ints l))(C:l.length≤1048576): ∃t s,gS pE 71 [a,.i .i64 n] []=some (t,s)∧g8 t (uf n l).length (ints (uf n l)):=by
 have U:=r.lenI
 have K:=adh r
 have hz:=r.froz
 rw[gX aoB (by simp[c71])]
 simp only[qA,seval,c71]
 generalize hD:DC pE 44 (.loop sZ) _=D
 obtain⟨V,il,rfl,W,X⟩:=asM l n a r (by omega) hD (by simp only[qA,seval]) (by simp only[qA,seval]) (by simp only[qA,seval])
 have Y:an V 0=a:=by rw[X 0 (by decide)];simp only[qA,seval]
 have Z:an V 1= .i .i64 n:=by rw[X 1 (by decide)];simp only[qA,seval]
 have p4:an V 4= .nilsl:=by rw[X 4 (by decide)];simp(maxDischargeDepth:=6) only[qA,seval]
 have sQ:=P6 n l
 by_cases hk:kZ n l<l.length
 ·have N:(kZ n l:Int)<l.length:=by omega
  obtain⟨rr,iv⟩:=ints_at r _ hk
  by_cases O:l[kZ n l]=n
  ·rw[Ls n l hk O]
   rw[O]at iv
   generalize kZ n l=k at*
   simp only[qA,seval,U,hz,Y,Z,W,N,iv]
   exact⟨_,_,rfl,r⟩
  ·have F:=EW n l (fun _=>O)
   obtain⟨v3,lh3,x1,x2,v1,iA,v2,lh2,⟨rE,yk⟩,jE,⟨oV,H⟩,⟨I,J⟩,O3⟩:=P7 l n a r C il (kZ n l) sQ
   rw[←F]at O3
   generalize hy:l[kZ n l]=y at*
   generalize kZ n l=k at*
   simp only[qA,seval,repl,iR,Nd,YY,U,K,Y,Z,W,N,iv,O,rE,yk,jE,oV,H,I,J,O3.fzV]
   exact⟨_,_,rfl,O3.isl⟩
 ·have N: ¬(kZ n l:Int)<l.length:=by omega
  have F:=EW n l (fun h=>absurd h hk)
  obtain⟨v3,lh3,x1,x2,v1,iA,v2,lh2,⟨rE,yk⟩,jE,⟨oV,H⟩,⟨I,J⟩,O3⟩:=P7 l n a r C il (kZ n l) sQ
  rw[←F]at O3
  generalize kZ n l=k at*
  simp only[qA,seval,repl,iR,Nd,YY,U,K,Y,Z,W,N,rE,yk,jE,oV,H,I,J,O3.fzV]
  exact⟨_,_,rfl,O3.isl⟩
def ny(X l:List Int):List Int:=l.foldl (fun X n=>uf n X) X
theorem Lu(X a b:List Int):ny X (a++b)=ny (ny X a) b:=List.foldl_append
theorem Lv(n:Int): ∀X:List Int,(uf n X).length≤X.length+1
 | []=>by simp[uf]
 |x::l=>by
  have:=Lv n l
  unfold uf;split
  ·simp only[List.length_cons];omega
  ·split <;> simp
theorem AT: ∀(l X:List Int),(ny X l).length≤X.length+l.length
 | [],X=>by simp[ny]
 |n::l,X=>by
  have i:=AT l (uf n X)
  have r:=Lv n X
  have e:ny X (n::l)=ny (uf n X) l:=rfl
  rw[e,List.length_cons];omega
theorem ayi(l:List Lg)(a:T)(Z:ES l a)(hn:l.length≤1000)(i:Nat)(hi:i<l.length)(X:List Int)(hX:X.length+(l[i]).du.length≤1048576)(fr:Fr)(lh:hJ gR)(sh:List gR)(C:an fr 0=a)(r:g8 (an fr 3) X.length (ints X))(D:an fr 4= .i .i64 (i:Int))(I:an fr 5= .i .i64 0):
  kV 44 sY fr lh sh (.ext 2)∧
  (g8 (an (kh pE 44 sY fr lh sh) 3) (ny X (y9 l[i].du)).length (ints (ny X (y9 l[i].du)))∧kb pE 44 sY fr lh sh=sh):=by
 obtain⟨v,rr,K,N⟩:=agK Z i hi
 generalize hg:l[i]=g at*
 have F:=N.lenI
 have hvn:=N.noTup
 refine jo (fun k st=> ∃(fr:Fr) (lh:hJ gR),st=⟨fr,lh,sh⟩∧an fr 0=a∧g8 (an fr 3) (ny X (y9 (g.du.take k))).length (ints (ny X (y9 (g.du.take k))))∧an fr 4= .i .i64 (i:Int)∧an fr 5= .i .i64 (k:Int)) (fun iq il iw=>g8 (an iq 3) (ny X (y9 g.du)).length (ints (ny X (y9 g.du)))∧iw=sh) _ g.du.length ?_ ?_ fr lh sh ⟨fr,lh,rfl,C,by simpa[y9,ny]using r,D,I⟩
 ·rintro k _ V ⟨fr,lh,rfl,C,r,D,I⟩
  have W:(k:Int)<g.du.length:=by omega
  have Y:=iG (k:=k) (by omega)
  obtain⟨r1,J⟩:=P4 N k V
  have sd:=Lm V
  have O:=IQ (g.du.take k)
  rw[List.length_take]at O
  have wD:=AT (y9 (g.du.take k)) X
  rw[sd,Lu]
  generalize g.du[k]=y at*
  generalize ny X (y9 (g.du.take k))=P at*
  obtain⟨y1,y2⟩:=y
  have h3z:=r.froz1
  have U:=r.froz
  generalize H:an fr 3=v3 at*
  cases y2 with
  |true=>
   simp only[qA,seval,sY,C,H,D,I,F,W,K,J,Y]
   exact iN ⟨_,_,rfl,by simp only[qA,seval,C],by simp only[qA,seval,H];exact r,by simp only[qA,seval,D],by simp only[qA,seval]⟩
  |false=>
   obtain⟨t,s,gZ,ht⟩:=ajX P y1 v3 r (by omega)
   simp only[qA,seval,sY,C,H,D,I,F,W,K,J,Y,U,gZ,avX]
   exact iN ⟨_,_,rfl,by simp only[qA,seval,C],by simp only[qA,seval];exact ht,by simp only[qA,seval,D],by simp only[qA,seval]⟩
 ·rintro _ ⟨fr,lh,rfl,C,r,D,I⟩
  rw[List.take_length]at r
  simp only[qA,seval,sY,C,D,I,K,F,Int.lt_irrefl]
  exact jD ⟨rfl,by simp only[qA,seval];exact r,rfl⟩
theorem asN{fr:Fr}{lh:hJ gR}{sh:List gR}{D:Option (Out×St)}(l:List Lg)(a:T)(C:ES l a)(F:l.length≤1000)(i:Nat)(hi:i<l.length)(X:List Int)(H:X.length+(l[i]).du.length≤1048576)(I:DC pE 44 (.loop sY) ⟨fr,lh,sh⟩=D)(J:an fr 0=a)(K:g8 (an fr 3) X.length (ints X))(N:an fr 4= .i .i64 (i:Int))(O:an fr 5= .i .i64 0):
  ∃r U,D=some (.ext 2,⟨r,U,sh⟩)∧g8 (an r 3) (ny X (y9 l[i].du)).length (ints (ny X (y9 l[i].du)))∧ ∀s,(kJ (.loop sY)).contains s=false→an r s=an fr s:=by
 obtain⟨e,V,W⟩:=ayi l a C F i hi X H fr lh sh J K N O
 unfold kV at e;rw[W]at e
 exact⟨_,_,I.symm.trans e,V,fun s hs=>lW e s hs⟩
theorem ayk(l:List Lg)(a:T)(I:ES l a)(hl:zd l≤1048576)(V:l.length≤1000)(fr:Fr)(lh:hJ gR)(sh:List gR)(r:an fr 0=a)(F:an fr 3= .nilsl)(C:an fr 4= .i .i64 0):
  kV 44 we fr lh sh (.ext 0)∧
  (g8 (an (kh pE 44 we fr lh sh) 3) (ny [] (yu l)).length (ints (ny [] (yu l)))∧kb pE 44 we fr lh sh=sh):=by
 refine jo (fun k st=> ∃(fr:Fr) (lh:hJ gR),st=⟨fr,lh,sh⟩∧an fr 0=a∧g8 (an fr 3) (ny [] (yu (l.take k))).length (ints (ny [] (yu (l.take k))))∧an fr 4= .i .i64 (k:Int)) (fun H W X=>g8 (an H 3) (ny [] (yu l)).length (ints (ny [] (yu l)))∧X=sh) _ l.length ?_ ?_ fr lh sh ⟨fr,lh,rfl,r,by rw[F];exact .inl ⟨rfl,rfl,rfl⟩,C⟩
 ·rintro k _ J ⟨fr,lh,rfl,r,F,C⟩
  have Y:(k:Int)<l.length:=by omega
  have Z:=iG (k:=k) (by omega)
  have K:lenI a=some (.i .i64 (l.length:Int)):=by obtain⟨cc,N,_⟩:=I;exact N.lenI
  have wD:=AS (l.take k)
  have jZ:=YU J
  have qI:=AT (yu (l.take k)) []
  rw[List.length_nil]at qI
  rw[Ln J,Lu]
  generalize ny [] (yu (l.take k))=P at*
  generalize O:an fr 3=v3 at*
  simp only[qA,seval,we,r,C,K,Y]
  generalize hD:DC pE 44 (.loop sY) _=D
  obtain⟨H,W,rfl,r1,U⟩:=asN l a I V k J P (by omega) hD (by simp only[qA,seval,r]) (by simp only[qA,seval,O];exact F) (by simp only[qA,seval,C]) (by simp only[qA,seval])
  have p0:an H 0=a:=by rw[U 0 (by decide)];simp only[qA,seval,r]
  have p4:an H 4= .i .i64 (k:Int):=by rw[U 4 (by decide)];simp only[qA,seval,C]
  simp only[qA,seval,p4,Z]
  exact iN ⟨_,_,rfl,by simp only[qA,seval,p0],by simp only[qA,seval];exact r1,by simp only[qA,seval]⟩
 ·rintro _ ⟨fr,lh,rfl,r,F,C⟩
  rw[List.take_length]at F
  have K:lenI a=some (.i .i64 (l.length:Int)):=by obtain⟨cc,N,_⟩:=I;exact N.lenI
  simp only[qA,seval,we,r,C,K,Int.lt_irrefl]
  exact jD ⟨rfl,by simp only[qA,seval];exact F,rfl⟩
theorem asO{fr:Fr}{lh:hJ gR}{sh:List gR}{D:Option (Out×St)}(l:List Lg)(a:T)(C:ES l a)(F:zd l≤1048576)(H:l.length≤1000)(I:DC pE 44 (.loop we) ⟨fr,lh,sh⟩=D)(J:an fr 0=a)(K:an fr 3= .nilsl)(N:an fr 4= .i .i64 0):
  ∃r O,D=some (.ext 0,⟨r,O,sh⟩)∧g8 (an r 3) (ny [] (yu l)).length (ints (ny [] (yu l))):=by
 obtain⟨e,U,V⟩:=ayk l a C F H fr lh sh J K N
 unfold kV at e;rw[V]at e
 exact⟨_,_,I.symm.trans e,U⟩
theorem YZ(l:List Lg)(a:T)(H:ES l a)(I:zd l≤1048576)(J:l.length≤1000): ∃t s,gS pE 30 [a] []=some (t,s)∧g8 t (ny [] (yu l)).length (ints (ny [] (yu l))):=by
 obtain⟨K,i,r⟩:=H
 rw[gX aom (by simp[c30])]
 simp only[qA,seval,c30]
 generalize N:DC pE 44 (.loop we) _=D
 obtain⟨O,V,rfl,C⟩:=asO l a ⟨K,i,r⟩ I J N (by simp only[qA,seval]) (by simp only[qA,seval]) (by simp only[qA,seval])
 generalize F:an O 3=v3 at C
 have U:=C.froz
 simp only[qA,seval,F,U]
 exact⟨_,_,rfl,C⟩
def Asc:List Int→Prop
 | []=>True
 |x::l=>(∀y∈l,x<y)∧Asc l
theorem EX(n m:Int): ∀l:List Int,m∈uf n l↔m=n∨m∈l
 | []=>by simp[uf]
 |x::l=>by
  unfold uf
  split
  ·rw[List.mem_cons,EX n m l,List.mem_cons]
   constructor
   ·rintro(h|h|h)
    ·exact .inr (.inl h)
    ·exact .inl h
    ·exact .inr (.inr h)
   ·rintro(h|h|h)
    ·exact .inr (.inl h)
    ·exact .inl h
    ·exact .inr (.inr h)
  ·split
   ·rename_i r i;subst i;simp
   ·simp
theorem Lw(n:Int): ∀l:List Int,Asc l→Asc (uf n l)
 | [],_=>⟨fun y hy=>by simp at hy,trivial⟩
 |x::l,h=>by
  unfold uf
  split
  ·rename_i i
   refine⟨fun y hy=> ?_,Lw n l h.2⟩
   rcases(EX n y l).1 hy with rfl|hy
   ·exact i
   ·exact h.1 y hy
  ·split
   ·exact h
   ·rename_i r C
    refine⟨fun y hy=> ?_,h⟩
    rcases List.mem_cons.1 hy with rfl|hy
    ·omega
    ·have:=h.1 y hy;omega
theorem Lx(m:Int): ∀(l X:List Int),m∈ny X l↔m∈X∨m∈l
 | [],X=>by simp[ny]
 |n::l,X=>by
  have e:ny X (n::l)=ny (uf n X) l:=rfl
  rw[e,Lx m l,EX,List.mem_cons]
  constructor
  ·rintro((h|h)|h)
   ·exact .inr (.inl h)
   ·exact .inl h
   ·exact .inr (.inr h)
  ·rintro(h|h|h)
   ·exact .inl (.inr h)
   ·exact .inl (.inl h)
   ·exact .inr h
theorem Ly: ∀(l X:List Int),Asc X→Asc (ny X l)
 | [],X,h=>h
 |n::l,X,h=>Ly l (uf n X) (Lw n X h)
theorem Y0: ∀(a b:List Int),Asc a→Asc b→(∀m,m∈a↔m∈b)→a=b
 | [],[],_,_,_=>rfl
 | [],y::b,_,_,h=>by have:=(h y).2 (by simp);simp at this
 |x::a,[],_,_,h=>by have:=(h x).1 (by simp);simp at this
 |x::a,y::b,r,C,h=>by
  have e:x=y:=by
   rcases List.mem_cons.1 ((h x).1 (by simp))with e|e
   ·exact e
   ·rcases List.mem_cons.1 ((h y).2 (by simp))with e2|e2
    ·exact e2.symm
    ·have D:=C.1 x e;have F:=r.1 y e2;omega
  subst e
  rw[Y0 a b r.2 C.2 fun m=> ?_]
  constructor
  ·intro i
   rcases List.mem_cons.1 ((h m).1 (List.mem_cons_of_mem _ i))with e|e
   ·have:=r.1 m i;omega
   ·exact e
  ·intro i
   rcases List.mem_cons.1 ((h m).2 (List.mem_cons_of_mem _ i))with e|e
   ·have:=C.1 m i;omega
   ·exact e
theorem xO(m:Int): ∀(p:Int) (l:List Int),m∈p::oB p l↔m=p∨m∈l
 |p,[]=>by simp[oB]
 |p,y::r=>by
  have ih:=xO m y r
  have i:=xO m p r
  simp only[oB]
  split
  ·rename_i h;subst h
   rw[i,List.mem_cons]
   constructor
   ·rintro(h|h)
    ·exact .inl h
    ·exact .inr (.inr h)
   ·rintro(h|h|h)
    ·exact .inl h
    ·exact .inl h
    ·exact .inr h
  ·rw[List.mem_cons,ih,List.mem_cons]
theorem SY(m:Int): ∀l:List Int,m∈k9 l↔m∈l
 | []=>Iff.rfl
 |x::r=>by rw[k9,xO,List.mem_cons]
def Y1:List Int→Prop
 | []=>True
 |x::l=>(∀y∈l,x≤y)∧Y1 l
theorem BP: ∀(p:Int) (l:List Int),Y1 (p::l)→Asc (p::oB p l)
 |p,[],_=>⟨fun y i=>by simp[oB]at i,trivial⟩
 |p,y::r,h=>by
  simp only[oB]
  split
  ·rename_i e
   subst e
   exact BP _ r ⟨fun z hz=>h.1 z (List.mem_cons_of_mem _ hz),h.2.2⟩
  ·rename_i e
   have ih:=BP y r h.2
   refine⟨fun z hz=> ?_,ih⟩
   have C:=h.1 y (by simp)
   rcases(xO z y r).1 hz with rfl|hz
   ·omega
   ·have:=h.2.1 z hz;omega
theorem SZ: ∀l:List Int,Y1 l→Asc (k9 l)
 | [],_=>trivial
 |x::r,h=>by rw[k9];exact BP x r h
theorem P8: ∀l:List Int,l.Pairwise (fun x y=>x≤y)→Y1 l
 | [],_=>trivial
 |x::r,h=>by rw[List.pairwise_cons]at h;exact⟨h.1,P8 r h.2⟩
theorem NV(l:List Int):Y1 (qc l):=by
 refine P8 _ ?_
 have h:=List.pairwise_mergeSort (le:=fun x y:Int=>decide (x≤y)) (by intro a b c;simp;omega) (by intro a b;simp;omega) l
 exact h.imp fun h=>by simpa using h
theorem Y2(l:List Lg):ny [] (yu l)=FU l:=by
 unfold FU
 refine Y0 _ _ (Ly _ _ trivial) (SZ _ (NV _)) fun m=> ?_
 rw[Lx,SY]
 unfold qc
 rw[List.mem_mergeSort]
 simp
theorem adj(l:List Lg)(a:T)(i:ES l a)(r:zd l≤1048576)(C:l.length≤1000): ∃t s,gS pE 30 [a] []=some (t,s)∧g8 t (FU l).length (ints (FU l)):=by
 rw[←Y2];exact YZ l a i r C
structure TtA (t:Tt):Prop where
 z:(∀u∈t.zo,u.sh.length≤l6)∧t.zo.length≤l6
 a:t.ap.length≤l6
 f:t.fl.length≤l6∧ ∀u∈t.fl,u.nu.length≤l6
theorem ayl(zT aT fT:T)(l:List Zo)(F:List T)(h:g8 zT l.length F)(K:ic C0 l F)(H:l.length≤l6)(fr:Fr)(lh:hJ gR)(sh:List gR)
  (r:an fr 1= .ptr .L 1 1 0) (C:A3 (an fr 3)=true) (D:an fr 4= .i .i64 0) (I:a6 lh 1=⟨1,.cells [zT,aT,fT] 0 true⟩):
  kV 38 A5 fr lh sh (.ext 0)∧(A3 (an (kh pE 38 A5 fr lh sh) 3)=true∧kb pE 38 A5 fr lh sh=sh):=by
 refine jo (fun k st=> ∃(fr:Fr),st=⟨fr,lh,sh⟩∧an fr 1= .ptr .L 1 1 0∧A3 (an fr 3)=true∧an fr 4= .i .i64 (k:Int)) (fun N Z O=>A3 (an N 3)=true∧O=sh) _ l.length ?_ ?_ fr lh sh ⟨fr,rfl,r,C,D⟩
 ·rintro k _ U ⟨fr,rfl,r,C,D⟩
  have V:(k:Int)<l.length:=by omega
  have W:=nQ (k:=k) (by omega)
  obtain⟨sT,sc,rr,X,Y,_⟩:=GW h K k U
  obtain⟨n,J⟩:=vG C
  simp only[qB,seval,A5,r,J,D,I,h.lenI,V,X,Y.lenI,W]
  refine vh (fun _=> ?_) (fun _=> ?_)
  ·exact iN ⟨_,rfl,by simp only[qA,seval,r],by simp only[qA,seval,oW],by simp only[qA,seval]⟩
  ·exact jD ⟨rfl,by simp only[qA,seval,J,oW],rfl⟩
 ·rintro _ ⟨fr,rfl,r,C,D⟩
  simp only[qA,seval,A5,r,D,I,h.lenI,Int.lt_irrefl]
  exact jD ⟨rfl,by simp only[qA,seval,C],rfl⟩
section
variable(t:Tt)(c:Ct)(zT aT fT a7 a8 a9 a10 hZ hU:T)(hT:vq t zT aT fT)(hC:xG c a7 a8 a9 a10 hZ hU)
theorem adk(hT:vq t zT aT fT)(hA:TtA t): ∃b,gS pE 38 [.agg [zT,aT,fT]] []=some (.b b,[]):=by
 obtain⟨⟨D,r,F⟩,⟨ac,H,W⟩,⟨Y,I,Z⟩⟩:=hT
 have C:=fun fr lh sh J K N O=>ayl zT aT fT t.zo D r F hA.z.2 fr lh sh J K N O
 rw[gX aon (by simp[c38])]
 simp only[qA,seval,c38,C,oW,r.lenI,H.lenI,I.lenI]
 generalize U:an (kh _ _ _ _ _ _) 3=X
 obtain⟨n,V⟩: ∃n,X= .i .i64 n:=by
  rw[←U]
  refine vG (C _ _ _ ?_ ?_ ?_ ?_).2.1 <;> simp only[qA,seval,oW]
 rw[V]
 simp only[qA,seval]
 exact⟨_,rfl⟩
theorem Y3(hT:vq t zT aT fT)(hA:TtA t)(hC:xG c a7 a8 a9 a10 hZ hU)(hB:CtA c): ∃b,gS pE 7 [.agg [zT,aT,fT],.agg (iS c a7 a8 a9 a10 hZ hU)] []=some (.b b,[]):=by
 have r:=Yn t c zT aT fT a7 a8 a9 a10 hZ hU hT hC
 obtain⟨b,C⟩:=adk t zT aT fT hT hA
 obtain⟨H,D⟩:=Y4 c a7 a8 a9 a10 hZ hU hC hB
 obtain⟨_,_,⟨I,F,J⟩⟩:=hT
 rw[gX fn7 (by simp[c7])]
 unfold iS at*
 by_cases i:(t.fl.length:Int)≤12 <;> cases b
 all_goals
  simp only[qA,seval,c7,C,D,avJ,avK,F.lenI,i,r]
  exact⟨_,rfl⟩
end
theorem NW:gS pE 17 [] []=some (.b true,[]):=je (m:=100) (jd (by kernel_rfl))
theorem Y5(t:Tt)(c:Ct)(d:List (Int×Bool)):(BM t c d).1.du.length≤d.length:=by
 unfold BM Lf
 split
 ·exact Nat.zero_le _
 split
 ·exact Nat.zero_le _
 split
 ·rw[ac2];exact Nat.le_refl _
 ·exact Nat.zero_le _
section
variable(t:Tt)(c:Ct)(zT aT fT a7 a8 a9 a10 hZ hU:T)(hT:vq t zT aT fT)(hC:xG c a7 a8 a9 a10 hZ hU)(hN:CtN c)(hA:TtA t)(hB:CtA c)
include hC hN hT hA hB
theorem adl(d:List (Int×Bool))(O:T)(J:EA d O)(l:List Lg)(a:T)(K:ES l a)(X:zd l≤1048576): ∃s,gS pE 5 [.agg [zT,aT,fT],.agg (iS c a7 a8 a9 a10 hZ hU),O,a] []=some (.b true,s):=by
 have U:=Yn t c zT aT fT a7 a8 a9 a10 hZ hU hT hC
 obtain⟨b,i⟩:=Y3 t c zT aT fT a7 a8 a9 a10 hZ hU hT hA hC hB
 have r:=NW
 have Z:=J.choose_spec.1.froz
 have ZQ:=J.choose_spec.1.froz1
 have C:=J.choose_spec.1.lenI
 have hx:=K.choose_spec.1.froz
 have hx1:=K.choose_spec.1.froz1
 have N:=K.choose_spec.1.lenI
 rw[gX fn5 (by simp[c5])]
 cases b with
 |false=>
  unfold iS at*
  simp only[qA,seval,c5,i,dc7,r,aao,U]
  exact⟨_,rfl⟩
 |true=>
 by_cases V:(40:Int)<d.length
 ·unfold iS at*
  simp only[qA,seval,c5,i,dc7,r,aao,V,C,U]
  exact⟨_,rfl⟩
 by_cases Y:(100:Int)<l.length
 ·unfold iS at*
  simp only[qA,seval,c5,i,dc7,r,aao,V,Y,C,N,U]
  exact⟨_,rfl⟩
 obtain⟨u1,s1,p1,D⟩:=ac4 t c zT aT fT a7 a8 a9 a10 hZ hU hT hC hN d O J (by omega)
 obtain⟨u2,p2,F⟩:=ade t c zT aT fT a7 a8 a9 a10 hZ hU hT hC hN hA.f.2 d O J (by omega)
 obtain⟨u3,s3,p3,H⟩:=adg l a K X (by omega)
 obtain⟨u4,s4,p4,I⟩:=adj l a K X (by omega)
 have W:=Y5 t c d
 have e1:=ajV (BM t c d).1 u1 u2 D F (by omega)
 have lM:(FU l).length≤1048576:=by
  rw[←Y2]
  have q1:=AT (yu l) []
  have q2:=AS l
  rw[List.length_nil]at q1
  omega
 have e2:=ajR (FU l) u3 u4 H I (by omega)
 have f1:=D.froz;have f2:=F.froz;have f3:=H.froz;have f4:=I.froz
 have g1:=D.froz1;have g2:=F.froz1;have g3:=H.froz1;have g4:=I.froz1
 have n1:=D.noTup;have n2:=F.noTup;have n3:=H.noTup;have n4:=I.noTup
 have c1:=D.cells;have c2:=F.cells;have c3:=H.cells;have c4:=I.cells
 clear D F H I lM W
 generalize BM t c d=A1 at*
 generalize FU l=A2 at*
 unfold iS ue at*
 simp only[qA,seval,c5,i,dc7,r,aao,V,Y,Z,C,hx,N,U,p1,p2,p3,p4,avE,avF,avH,avI,e1,e2,avG,avD,f3,f4,g1,g2]
 exact⟨_,rfl⟩
end
def tyS:List TypeId:= [34,132,147,134,149,276,279,27,28,29,30,31,32,3,9,4,26,22,23,24,144,142,151,153,84,82,36,41,64,59]
theorem HF:tyS.all (aiX Tryz.prog tyS)=true:=by kernel_rfl
theorem aym:kU Tryz.prog 34=some [3,3,3,3,3,3,3,27,28,29,30,31,32,3]:=by kernel_rfl
theorem asP:kU Tryz.prog 132=some [3,3,9,30]:=by kernel_rfl
theorem asQ:kU Tryz.prog 147=some [9,132]:=by kernel_rfl
theorem asR:kU Tryz.prog 134=some [3,9,132]:=by kernel_rfl
theorem asS:kU Tryz.prog 149=some [3,132]:=by kernel_rfl
theorem asT:kU Tryz.prog 276=some [9,9,3,3]:=by kernel_rfl
theorem asU:kU Tryz.prog 279=some [9,3,3]:=by kernel_rfl
theorem ty3:Tryz.prog.underlying 3=some (.int .i64):=by kernel_rfl
theorem ty9:Tryz.prog.underlying 9=some .string:=by kernel_rfl
theorem Hg:reachBytes≤l6:=by decide
theorem j4: ∀{n:Nat} {ts:List T},kS Tryz.prog n 3 ts→ ∃x,ts= [.i .i64 x]
 |0,_,h=>h.elim
 |n+1,ts,h=>by unfold kS at h;rw[ty3]at h;exact h
theorem oc: ∀{n:Nat} {ts:List T},kS Tryz.prog n 9 ts→ ∃s,ts= [.s s]∧s.length≤l6
 |0,_,h=>h.elim
 |n+1,ts,h=>by
  unfold kS at h;rw[ty9]at h
  obtain⟨s,i,r⟩:=h
  exact⟨s,i,Nat.le_trans r Hg⟩
theorem mN{α:Type}{R:α→List T→Prop}{Q:α→Prop}{K:List T→Prop}(C: ∀p,K p→ ∃x,R x p∧Q x): ∀(len:Nat) (i:List T),yp K len i→ ∃xs:List α,xs.length=len∧ic R xs i∧ ∀x∈xs,Q x
 |0,i,h=>⟨[],rfl,h,by simp⟩
 |len+1,i,h=>by
  obtain⟨p,r,rfl,D,F⟩:=h
  obtain⟨x,H,I⟩:=C p D
  obtain⟨xs,J,N,O⟩:=mN C len r F
  refine⟨x::xs,by rw[List.length_cons,J],⟨p,r,rfl,H,N⟩,fun z hz=> ?_⟩
  rcases List.mem_cons.1 hz with rfl|hz
  ·exact I
  ·exact O z hz
theorem wY: ∀{xs:List Ex} {i:List T},ic lK xs i→jN xs i
 | [],i,h=>by rw[jN];exact h
 |x::xs,i,h=>by
  obtain⟨c,r,rfl,C,D⟩:=h
  exact jN.cons C (wY D)
theorem EY: ∀{xs:Cs} {i:List T},ic (fun c cs=> ∃ex,cs=T.s c.1::ex∧lK c.2 ex) xs i→kD xs i
 | [],i,h=>by rw[kD];exact h
 |x::xs,i,h=>by
  obtain⟨c,r,rfl,⟨ex,rfl,C⟩,D⟩:=h
  rw[kD];exact⟨ex,r,rfl,C,EY D⟩
theorem ug{t e:TypeId}(r:Nb Tryz.prog t=some e)(C:0<Tryz.prog.bytesOf e): ∀{n:Nat} {ts:List T},kS Tryz.prog n t ts→ ∃m v len i,n=m+1∧ts= [v]∧g8 v len i∧len≤l6∧yp (kS Tryz.prog m e) len i
 |0,_,h=>h.elim
 |n+1,ts,h=>by
  obtain⟨v,len,i,D,F,H,I⟩:=h.row r
  exact⟨n,v,len,i,rfl,D,F,Nat.le_trans (Nat.le_mul_of_pos_right len C) (Nat.le_trans H Hg),I⟩
theorem agO: ∀(k n:Nat) (ts:List T),n≤k→kS Tryz.prog n 132 ts→ ∃x:Ex,lK x ts∧x.al∧x.sm
 |0,0,_,_,h=>h.elim
 |_+1,0,_,_,h=>h.elim
 |k+1,n+1,ts,W,h=>by
  obtain⟨X,Y,rfl,D,Z,r2,rfl,F,p3,r3,rfl,H,p4,r4,rfl,I,rfl⟩:=h.st asP
  obtain⟨op,rfl⟩:=j4 D
  obtain⟨num,rfl⟩:=j4 F
  obtain⟨s,rfl,hs⟩:=oc H
  obtain⟨m,v,len,r,rfl,rfl,J,K,N⟩:=ug (e:=132) (by kernel_rfl) (of_decide_eq_true (by kernel_rfl)) I
  obtain⟨xs,O,U,C⟩:=mN (Q:=fun x:Ex=>x.al∧x.sm) (fun p V=>agO k m p (by omega) V) len r N
  subst O
  exact⟨.mk op num s xs,by rw[lK];exact⟨v,r,rfl,J,wY U⟩,by rw[Ex.al];exact⟨K,IT.2 fun x i=>(C x i).1⟩,by rw[Ex.sm];exact⟨hs,Da.2 fun x i=>(C x i).2⟩⟩
theorem P9{n:Nat}{ts:List T}(h:kS Tryz.prog n 132 ts): ∃x:Ex,lK x ts∧x.al∧Mc x:=by
 obtain⟨x,i,r,C⟩:=agO n n ts (Nat.le_refl _) h
 exact⟨x,i,r,Nat.zero_le _,C⟩
theorem asV: ∀{n:Nat} {p:List T},kS Tryz.prog n 147 p→ ∃c:List Nat×Ex,(∃ex,p=T.s c.1::ex∧lK c.2 ex)∧c.2.al∧Mc c.2
 |0,_,h=>h.elim
 |n+1,p,h=>by
  obtain⟨H,I,rfl,i,r,J,rfl,C,rfl⟩:=h.st asQ
  obtain⟨s,rfl,_⟩:=oc i
  obtain⟨x,D,F⟩:=P9 C
  exact⟨(s,x),⟨r,by simp,D⟩,F⟩
theorem asW: ∀{n:Nat} {p:List T},kS Tryz.prog n 134 p→ ∃u:Ru,Tv u p∧u.x.al∧Mc u.x
 |0,_,h=>h.elim
 |n+1,p,h=>by
  obtain⟨I,J,rfl,i,K,N,rfl,r,O,U,rfl,C,rfl⟩:=h.st asR
  obtain⟨k,rfl⟩:=j4 i
  obtain⟨s,rfl,_⟩:=oc r
  obtain⟨x,D,F⟩:=P9 C
  obtain⟨a,H,rfl,y⟩:=D.cells
  exact⟨⟨k,s,x⟩,⟨a,H,rfl,y⟩,F⟩
theorem asY: ∀{n:Nat} {p:List T},kS Tryz.prog n 149 p→ ∃u:Co,Z3 u p∧u.x.al∧Mc u.x
 |0,_,h=>h.elim
 |n+1,p,h=>by
  obtain⟨H,I,rfl,i,J,K,rfl,r,rfl⟩:=h.st asS
  obtain⟨k,rfl⟩:=j4 i
  obtain⟨x,C,D⟩:=P9 r
  obtain⟨a,F,rfl,y⟩:=C.cells
  exact⟨⟨k,x⟩,⟨a,F,rfl,y⟩,D⟩
theorem asZ: ∀{n:Nat} {p:List T},kS Tryz.prog n 276 p→ ∃u:Li,LiR u p∧True
 |0,_,h=>h.elim
 |n+1,p,h=>by
  obtain⟨F,H,rfl,i,I,J,rfl,r,K,N,rfl,C,O,U,rfl,D,rfl⟩:=h.st asT
  obtain⟨s,rfl,_⟩:=oc i
  obtain⟨m,rfl,_⟩:=oc r
  obtain⟨x,rfl⟩:=j4 C
  obtain⟨y,rfl⟩:=j4 D
  exact⟨⟨s,m,x,y⟩,rfl,trivial⟩
theorem as0: ∀{n:Nat} {p:List T},kS Tryz.prog n 279 p→ ∃u:Of,OfR u p∧True
 |0,_,h=>h.elim
 |n+1,p,h=>by
  obtain⟨D,F,rfl,i,H,I,rfl,r,J,K,rfl,C,rfl⟩:=h.st asU
  obtain⟨s,rfl,_⟩:=oc i
  obtain⟨x,rfl⟩:=j4 r
  obtain⟨y,rfl⟩:=j4 C
  exact⟨⟨s,x,y⟩,rfl,trivial⟩
theorem as1: ∀{n:Nat} {p:List T},kS Tryz.prog n 34 p→ ∃(c:Ct) (a7 a8 a9 a10 hZ hU:T),p=iS c a7 a8 a9 a10 hZ hU∧xG c a7 a8 a9 a10 hZ hU∧CtA c∧CtN c
 |0,_,h=>h.elim
 |n+1,p,h=>by
  obtain⟨p0,r0,rfl,h0,p1,r1,rfl,h1,p2,r2,rfl,h2,p3,r3,rfl,h3,p4,r4,rfl,h4,p5,r5,rfl,h5,p6,r6,rfl,h6,p7,r7,rfl,h7,p8,r8,rfl,h8,p9,r9,rfl,h9,Z5,r10,rfl,D,p11,r11,rfl,F,p12,r12,rfl,H,p13,r13,rfl,nv,rfl⟩:=h.st aym
  obtain⟨x0,rfl⟩:=j4 h0
  obtain⟨x1,rfl⟩:=j4 h1
  obtain⟨x2,rfl⟩:=j4 h2
  obtain⟨x3,rfl⟩:=j4 h3
  obtain⟨x4,rfl⟩:=j4 h4
  obtain⟨x5,rfl⟩:=j4 h5
  obtain⟨x6,rfl⟩:=j4 h6
  obtain⟨I,rfl⟩:=j4 nv
  obtain⟨m7,a7,l7,c7,_,rfl,i7,b7,j7⟩:=ug (e:=147) (by kernel_rfl) (of_decide_eq_true (by kernel_rfl)) h7
  obtain⟨m8,a8,l8,c8,_,rfl,i8,b8,j8⟩:=ug (e:=134) (by kernel_rfl) (of_decide_eq_true (by kernel_rfl)) h8
  obtain⟨m9,a9,l9,c9,_,rfl,i9,b9,j9⟩:=ug (e:=149) (by kernel_rfl) (of_decide_eq_true (by kernel_rfl)) h9
  obtain⟨m10,a10,J,vv,_,rfl,K,N,vw⟩:=ug (e:=132) (by kernel_rfl) (of_decide_eq_true (by kernel_rfl)) D
  obtain⟨m11,hZ,O,yg,_,rfl,U,V,xH⟩:=ug (e:=276) (by kernel_rfl) (of_decide_eq_true (by kernel_rfl)) F
  obtain⟨m12,hU,W,yY,_,rfl,X,Y,yt⟩:=ug (e:=279) (by kernel_rfl) (of_decide_eq_true (by kernel_rfl)) H
  obtain⟨v7,rfl,w7,q7⟩:=mN (fun p r=>asV r) l7 c7 j7
  obtain⟨v8,rfl,w8,q8⟩:=mN (fun p r=>asW r) l8 c8 j8
  obtain⟨v9,rfl,w9,q9⟩:=mN (fun p r=>asY r) l9 c9 j9
  obtain⟨Z,rfl,w10,C⟩:=mN (fun p r=>P9 r) J vv vw
  obtain⟨v11,rfl,w11,_⟩:=mN (fun p r=>asZ r) O yg xH
  obtain⟨v12,rfl,w12,_⟩:=mN (fun p r=>as0 r) W yY yt
  refine⟨⟨x0,x1,x2,x3,x4,x5,x6,v7,v8,v9,Z,v11,v12,I⟩,a7,a8,a9,a10,hZ,hU,rfl,⟨⟨_,i7,EY w7⟩,⟨_,i8,w8⟩,⟨_,i9,w9⟩,⟨_,K,wY w10⟩,⟨_,U,w11⟩,⟨_,X,w12⟩⟩, ?_, ?_⟩
  ·exact⟨⟨fun u i=>(q7 u i).1,b7⟩,⟨fun u i=>(q8 u i).1,b8⟩,⟨fun u i=>(q9 u i).1,b9⟩,⟨fun u i=>(C u i).1,N⟩,V,Y⟩
  ·exact⟨fun u i=>(q7 u i).2,fun u i=>(q8 u i).2,fun u i=>(q9 u i).2,fun u i=>(C u i).2⟩
theorem ayn:kU Tryz.prog 26=some [22,23,24]:=by kernel_rfl
theorem as2:kU Tryz.prog 144=some [9,3,142]:=by kernel_rfl
theorem as3:kU Tryz.prog 151=some [3,3]:=by kernel_rfl
theorem as4:kU Tryz.prog 153=some [9,9]:=by kernel_rfl
theorem as5:kU Tryz.prog 64=some [41,3,3,9,9,3,3]:=by kernel_rfl
theorem ayo:kU Tryz.prog 84=some [9,9,9,3,3,9,82]:=by kernel_rfl
theorem ayp:XA Tryz.prog 82=some (3,3):=by kernel_rfl
theorem ayq:kU Tryz.prog 36=some [3,4]:=by kernel_rfl
theorem ty4:Tryz.prog.underlying 4=some .bool:=by kernel_rfl
theorem adn: ∀{n:Nat} {ts:List T},kS Tryz.prog n 4 ts→ ∃x,ts= [.b x]
 |0,_,h=>h.elim
 |n+1,ts,h=>by unfold kS at h;rw[ty4]at h;exact h
theorem as6: ∀{n:Nat} {p:List T},kS Tryz.prog n 151 p→ ∃u:Int×Int,Sz u p∧True
 |0,_,h=>h.elim
 |n+1,p,h=>by
  obtain⟨C,D,rfl,i,F,H,rfl,r,rfl⟩:=h.st as3
  obtain⟨x,rfl⟩:=j4 i
  obtain⟨y,rfl⟩:=j4 r
  exact⟨(x,y),rfl,trivial⟩
theorem as7: ∀{n:Nat} {p:List T},kS Tryz.prog n 144 p→ ∃u:Zo,C0 u p∧u.sh.length≤l6
 |0,_,h=>h.elim
 |n+1,p,h=>by
  obtain⟨N,O,rfl,r,U,V,rfl,C,W,X,rfl,D,rfl⟩:=h.st as2
  obtain⟨s,rfl,_⟩:=oc r
  obtain⟨x,rfl⟩:=j4 C
  obtain⟨m,v,len,i,rfl,rfl,F,H,I⟩:=ug (e:=151) (by kernel_rfl) (of_decide_eq_true (by kernel_rfl)) D
  obtain⟨xs,rfl,J,_⟩:=mN (fun p K=>as6 K) len i I
  exact⟨⟨s,x,xs⟩,⟨v,i,rfl,F,J⟩,H⟩
theorem as8: ∀{n:Nat} {p:List T},kS Tryz.prog n 153 p→ ∃u:Ap,L8 u p∧True
 |0,_,h=>h.elim
 |n+1,p,h=>by
  obtain⟨C,D,rfl,i,F,H,rfl,r,rfl⟩:=h.st as4
  obtain⟨x,rfl,_⟩:=oc i
  obtain⟨y,rfl,_⟩:=oc r
  exact⟨⟨x,y⟩,rfl,trivial⟩
theorem as9: ∀{n:Nat} {p:List T},kS Tryz.prog n 82 p→ ∃x y z:Int,p= [.i .i64 x,.i .i64 y,.i .i64 z]
 |0,_,h=>h.elim
 |n+1,p,h=>by
  obtain⟨F,H,rfl,r,I,J,rfl,C,K,N,rfl,D,rfl⟩:=h.arr ayp
  obtain⟨x,rfl⟩:=j4 r
  obtain⟨y,rfl⟩:=j4 C
  obtain⟨z,rfl⟩:=j4 D
  exact⟨x,y,z,rfl⟩
theorem ata: ∀{n:Nat} {p:List T},kS Tryz.prog n 84 p→ ∃u:Fl,Z0 u p∧u.nu.length≤l6
 |0,_,h=>h.elim
 |n+1,p,h=>by
  obtain⟨X,Y,rfl,i,Z,r1,rfl,r,p2,r2,rfl,C,p3,r3,rfl,D,p4,r4,rfl,F,p5,r5,rfl,H,p6,r6,rfl,I,rfl⟩:=h.st ayo
  obtain⟨J,rfl,K⟩:=oc i
  obtain⟨N,rfl,_⟩:=oc r
  obtain⟨O,rfl,_⟩:=oc C
  obtain⟨U,rfl⟩:=j4 D
  obtain⟨V,rfl⟩:=j4 F
  obtain⟨W,rfl,_⟩:=oc H
  obtain⟨a,b,c,rfl⟩:=as9 I
  exact⟨⟨J,N,O,U,V,W,a,b,c⟩,rfl,K⟩
theorem atb: ∀{n:Nat} {p:List T},kS Tryz.prog n 26 p→ ∃(t:Tt) (zT aT fT:T),p= [zT,aT,fT]∧vq t zT aT fT∧TtA t
 |0,_,h=>h.elim
 |n+1,p,h=>by
  obtain⟨p0,r0,rfl,C,p1,r1,rfl,D,p2,r2,rfl,F,rfl⟩:=h.st ayn
  obtain⟨m0,H,I,J,_,rfl,K,N,O⟩:=ug (e:=144) (by kernel_rfl) (of_decide_eq_true (by kernel_rfl)) C
  obtain⟨m1,U,V,W,_,rfl,X,Y,Z⟩:=ug (e:=153) (by kernel_rfl) (of_decide_eq_true (by kernel_rfl)) D
  obtain⟨m2,v2,l2,c2,_,rfl,i2,b2,j2⟩:=ug (e:=84) (by kernel_rfl) (of_decide_eq_true (by kernel_rfl)) F
  obtain⟨zs,rfl,w0,q0⟩:=mN (fun p i=>as7 i) I J O
  obtain⟨r,rfl,w1,_⟩:=mN (fun p i=>as8 i) V W Z
  obtain⟨fs,rfl,w2,q2⟩:=mN (fun p i=>ata i) l2 c2 j2
  exact⟨⟨zs,r,fs⟩,H,U,v2,rfl,⟨⟨_,K,w0⟩,⟨_,X,w1⟩,⟨_,i2,w2⟩⟩,⟨⟨q0,N⟩,Y,b2,q2⟩⟩
theorem atc: ∀{n:Nat} {p:List T},kS Tryz.prog n 36 p→ ∃u:Int×Bool,Yh u p∧True
 |0,_,h=>h.elim
 |n+1,p,h=>by
  obtain⟨C,D,rfl,i,F,H,rfl,r,rfl⟩:=h.st ayq
  obtain⟨x,rfl⟩:=j4 i
  obtain⟨y,rfl⟩:=adn r
  exact⟨(x,y),rfl,trivial⟩
theorem agQ: ∀{n:Nat} {p:List T},kS Tryz.prog n 41 p→ ∃(d:List (Int×Bool)) (v:T),p= [v]∧EA d v
 |0,_,h=>h.elim
 |n+1,p,h=>by
  obtain⟨m,v,len,r,_,rfl,i,b,j⟩:=ug (e:=36) (by kernel_rfl) (of_decide_eq_true (by kernel_rfl)) h
  obtain⟨xs,rfl,w,_⟩:=mN (fun p C=>atc C) len r j
  exact⟨xs,v,rfl,r,i,w⟩
theorem agR{v:T}{n:Nat}{cs:List T}(h:g8 v n cs):By cs≤wt v:=by
 rcases h with⟨rfl,rfl,rfl⟩|⟨b,rfl⟩
 ·exact Nat.zero_le _
 ·simp only[wt];omega
theorem ajZ{d:List (Int×Bool)}: ∀{i:List T},ic Yh d i→d.length≤By i:=by
 induction d with
 |nil=>intro i h;exact Nat.zero_le _
 |cons k d ih=>
  rintro i ⟨c,r,rfl,C,D⟩
  have:=ih D
  rw[xC,List.length_cons]
  rw[Yh]at C
  subst C
  simp only[By,wt]
  omega
theorem atd: ∀{n:Nat} {p:List T},kS Tryz.prog n 64 p→ ∃u:Lg,LgR u p∧True
 |0,_,h=>h.elim
 |n+1,p,h=>by
  obtain⟨X,Y,rfl,i,Z,r1,rfl,r,p2,r2,rfl,C,p3,r3,rfl,D,p4,r4,rfl,F,p5,r5,rfl,H,p6,r6,rfl,I,rfl⟩:=h.st as5
  obtain⟨d,v,rfl,cc,hs,J⟩:=agQ i
  obtain⟨K,rfl⟩:=j4 r
  obtain⟨N,rfl⟩:=j4 C
  obtain⟨O,rfl,_⟩:=oc D
  obtain⟨U,rfl,_⟩:=oc F
  obtain⟨V,rfl⟩:=j4 H
  obtain⟨W,rfl⟩:=j4 I
  obtain rfl:=IH J
  exact⟨⟨d,K,N,O,U,V,W⟩,⟨v,rfl,hs⟩,trivial⟩
theorem aj0{l:List Lg}: ∀{i:List T},ic LgR l i→(∀g c,g∈l→LgR g c→g.du.length≤By c)→zd l≤By i:=by
 induction l with
 |nil=>intro i h _;exact Nat.zero_le _
 |cons g l ih=>
  rintro i ⟨c,r,rfl,D,F⟩ C
  have H:zd (g::l)=g.du.length+zd l:=by simp[zd]
  have:=ih F fun g c I=>C g c (List.mem_cons_of_mem _ I)
  have:=C g c (by simp) D
  rw[xC,H]
  omega
theorem aj1(g:Lg)(c:List T)(h:LgR g c):g.du.length≤By c:=by
 obtain⟨v,rfl,h⟩:=h
 have:=agR h
 have i:g.du.length≤By (y8 g.du):=ajZ (EO g.du)
 simp only[ue,By]
 omega
theorem UT{K N O U:Nat}{F H I D:List T}(V:kS Tryz.prog K 26 F)(W:kS Tryz.prog N 34 H)(X:kS Tryz.prog O 41 I)(Y:kS Tryz.prog U 59 D)(Z:By D≤1048576):
  ∃r C s,I= [r]∧D= [C]∧gS pE 5 [.agg F,.agg H,r,C] []=some (.b true,s):=by
 obtain⟨t,zT,aT,fT,rfl,hT,hA⟩:=atb V
 obtain⟨c,a7,a8,a9,a10,hZ,hU,rfl,hC,hB,hN⟩:=as1 W
 obtain⟨d,r,rfl,hd⟩:=agQ X
 obtain⟨m,C,len,J,_,rfl,i,b,j⟩:=ug (e:=64) (by kernel_rfl) (of_decide_eq_true (by kernel_rfl)) Y
 obtain⟨l,rfl,w,_⟩:=mN (fun p hp=>atd hp) len J j
 have q1:=agR i
 have q2:=aj0 w fun g c _=>aj1 g c
 simp only[By]at Z
 obtain⟨s,hs⟩:=adl t c zT aT fT a7 a8 a9 a10 hZ hU hT hC hN hA hB d r hd l C ⟨J,i,w⟩ (by omega)
 exact⟨r,C,s,rfl,rfl,hs⟩
end Go.Proofs.YtblcbheipjeoeaaGreat
